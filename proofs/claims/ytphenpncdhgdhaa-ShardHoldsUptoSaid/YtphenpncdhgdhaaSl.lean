/- A small separation logic over blocks of memory: assertions with a footprint, what a call keeps, contracts of functions. -/
import Derived.Test.YtphenpncdhgdhaaWWords
import Derived.Test.YtphenpncdhgdhaaWLast
namespace Go.Proofs.YtphenpncdhgdhaaW.PrintMore
end Go.Proofs.YtphenpncdhgdhaaW.PrintMore
namespace Go.Proofs.Ytphenpncdhgdhaa.Sl
open Go.RowKit Go.Proofs.YtphenpncdhgdhaaW.PrintWords Go.Proofs.YtphenpncdhgdhaaW.PrintLast Go.Proofs.YtphenpncdhgdhaaW.PrintMore
set_option linter.unusedVariables false
set_option linter.unusedSimpArgs false

/-- What is so from a world to a later one: nothing elder is turned but the blocks of S. -/
structure Ext (w w' : World) (S : Nat → Prop) : Prop where
  os : w'.os = w.os
  tape : w'.tape = w.tape
  output : w'.output = w.output
  size : w.heap.size ≤ w'.heap.size
  block : ∀ i, i < w.heap.size → ¬ S i → w'.heap[i]? = w.heap[i]?

namespace Ext
theorem refl (w : World) (S : Nat → Prop) : Ext w w S := ⟨rfl, rfl, rfl, Nat.le_refl _, fun _ _ _ => rfl⟩
theorem mono {w w' : World} {S S' : Nat → Prop} (h : Ext w w' S) (hs : ∀ k, S k → S' k) : Ext w w' S' :=
  ⟨h.os, h.tape, h.output, h.size, fun i hi hn => h.block i hi (fun hk => hn (hs i hk))⟩
theorem trans {a b c : World} {S S1 : Nat → Prop} (h : Ext a b S) (k : Ext b c S1) (hs : ∀ k, S1 k → S k ∨ a.heap.size ≤ k) : Ext a c S :=
  ⟨k.os.trans h.os, k.tape.trans h.tape, k.output.trans h.output, Nat.le_trans h.size k.size, fun i hi hn =>
    (k.block i (Nat.lt_of_lt_of_le hi h.size) (fun h1 => (hs i h1).elim hn (fun h2 => by omega))).trans (h.block i hi hn)⟩
theorem below {w w' : World} (h : Ext w w' (fun _ => False)) : Below w.heap.size w w' := ⟨h.os, h.tape, h.output, h.size, fun k hk => h.block k hk (fun f => f)⟩
theorem of_below {w w' : World} (h : Below w.heap.size w w') (S : Nat → Prop) : Ext w w' S := ⟨h.os, h.tape, h.output, h.size, fun k hk _ => h.block k hk⟩
theorem of_grown {w w' : World} {row : Option Nat} (h : w.grownBy w' row) {S : Nat → Prop} (hs : ∀ k, row = some k → S k) : Ext w w' S :=
  ⟨h.os, h.tape, h.output, h.size, fun k hk hn => h.block k hk (fun e => hn (hs k e.symm))⟩
theorem alloc (w : World) (o : Obj) (S : Nat → Prop) : Ext w (w.alloc o) S := of_below (below_alloc (Below.refl _ _) o) S
theorem drew (w : World) (S : Nat → Prop) : Ext w w.drew S := ⟨rfl, rfl, rfl, Nat.le_refl _, fun _ _ _ => rfl⟩
theorem drewN (w : World) (n : Nat) (S : Nat → Prop) : Ext w (w.drewN n) S := ⟨rfl, rfl, rfl, Nat.le_refl _, fun _ _ _ => rfl⟩
theorem setCell (w : World) (p : Addr) (v : Value) {S : Nat → Prop} (hs : S p.block) : Ext w (w.setCell p v) S :=
  ⟨rfl, rfl, rfl, by simp [World.setCell], fun i _ hn => Below.heap_setCell w p v i (fun e => hn (by rw [e]; exact hs))⟩
theorem cell {w w' : World} {S : Nat → Prop} (h : Ext w w' S) {a : Addr} {v : Value} (hc : w.cell? a = some v) (hn : ¬ S a.block) : w'.cell? a = some v := by
  have := h.block a.block (World.block_lt_of_cell? w a hc) hn
  simpa [World.cell?, this] using hc
end Ext

/-- An assertion: what holds of a world's blocks S (or more). -/
structure HP where
  h : World → (Nat → Prop) → Prop
  mono : ∀ {w S S'}, h w S → (∀ k, S k → S' k) → h w S'
  step : ∀ {w w' : World} {S}, h w S → (∀ k, S k → k < w.heap.size → w'.heap[k]? = w.heap[k]?) → h w' S
  bound : ∀ {w : World} {S}, h w S → h w (fun k => S k ∧ k < w.heap.size)

namespace HP
def pure (p : Prop) : HP := ⟨fun _ _ => p, fun h _ => h, fun h _ => h, fun h => h⟩
def emp : HP := pure True
def ex {α : Type} (f : α → HP) : HP := ⟨fun w S => ∃ x, (f x).h w S, fun ⟨x, h⟩ hs => ⟨x, (f x).mono h hs⟩, fun ⟨x, h⟩ hs => ⟨x, (f x).step h hs⟩, fun ⟨x, h⟩ => ⟨x, (f x).bound h⟩⟩
def and (p : Prop) (A : HP) : HP := ⟨fun w S => p ∧ A.h w S, fun ⟨x, h⟩ hs => ⟨x, A.mono h hs⟩, fun ⟨x, h⟩ hs => ⟨x, A.step h hs⟩, fun ⟨x, h⟩ => ⟨x, A.bound h⟩⟩
def star (A B : HP) : HP where
  h := fun w S => ∃ S1 S2, A.h w S1 ∧ B.h w S2 ∧ (∀ k, S1 k → S2 k → False) ∧ (∀ k, S1 k → S k) ∧ (∀ k, S2 k → S k)
  mono := fun ⟨S1, S2, a, b, d, s1, s2⟩ hs => ⟨S1, S2, a, b, d, fun k h => hs k (s1 k h), fun k h => hs k (s2 k h)⟩
  step := fun ⟨S1, S2, a, b, d, s1, s2⟩ hs => ⟨S1, S2, A.step a (fun k h => hs k (s1 k h)), B.step b (fun k h => hs k (s2 k h)), d, s1, s2⟩
  bound := fun ⟨S1, S2, a, b, d, s1, s2⟩ => ⟨_, _, A.bound a, B.bound b, fun k h1 h2 => d k h1.1 h2.1, fun k h => ⟨s1 k h.1, h.2⟩, fun k h => ⟨s2 k h.1, h.2⟩⟩
/-- A block of the assertion's own. -/
def own (g : Nat) (o : Obj) : HP where
  h := fun w S => w.heap[g]? = some o ∧ S g
  mono := fun ⟨h, s⟩ hs => ⟨h, hs _ s⟩
  step := fun ⟨h, s⟩ hs => ⟨(hs _ s (blk_lt h)).trans h, s⟩
  bound := fun ⟨h, s⟩ => ⟨h, s, blk_lt h⟩
/-- A struct's (or variable's) block: its cells. -/
def obj (g : Nat) (t : TypeId) (cs : List Value) : HP := own g (.cells cs.toArray t (0, 0))
/-- A row of the assertion's own: a slice that nobody else holds. -/
def row {α : Type} (d : Kd α) (e : TypeId) (v : Value) (xs : List α) : HP where
  h := fun w S => d.R e w 0 S v xs
  mono := fun h hs => Kd.R_mono h hs
  step := fun h hs => Kd.R_step h hs
  bound := fun h => Kd.R_mono (Kd.R_bound h) (fun k hk => ⟨hk.1, hk.2.2.1⟩)
/-- An element's cells, with what they own. -/
def cells {α : Type} (d : Kd α) (x : α) (cs : List Value) : HP where
  h := fun w S => d.M w 0 S x cs
  mono := fun h hs => d.M_mono hs h
  step := fun h hs => Kd.M_step h hs
  bound := fun h => d.M_mono (fun k hk => ⟨hk.1, hk.2.2.1⟩) (d.M_bound h)
end HP
open HP
/-- All of them, each of blocks of its own. -/
def all : List HP → HP
  | [] => emp
  | A :: L => star A (all L)

/-- A gives B. -/
def Gives (A B : HP) : Prop := ∀ w S, A.h w S → B.h w S
namespace Gives
theorem refl (A : HP) : Gives A A := fun _ _ h => h
theorem trans {A B C : HP} (h : Gives A B) (k : Gives B C) : Gives A C := fun w S a => k w S (h w S a)
theorem star {A A' B B' : HP} (h : Gives A A') (k : Gives B B') : Gives (HP.star A B) (HP.star A' B') := fun w S ⟨S1, S2, a, b, r⟩ => ⟨S1, S2, h w S1 a, k w S2 b, r⟩
theorem comm (A B : HP) : Gives (HP.star A B) (HP.star B A) := fun w S ⟨S1, S2, a, b, d, s1, s2⟩ => ⟨S2, S1, b, a, fun k h1 h2 => d k h2 h1, s2, s1⟩
theorem assoc (A B C : HP) : Gives (HP.star (HP.star A B) C) (HP.star A (HP.star B C)) := by
  rintro w S ⟨S12, S3, ⟨S1, S2, a, b, d, s1, s2⟩, c, d', t1, t2⟩
  exact ⟨S1, fun k => S2 k ∨ S3 k, a, ⟨S2, S3, b, c, fun k h2 h3 => d' k (s2 k h2) h3, fun k h => .inl h, fun k h => .inr h⟩, fun k h1 h => h.elim (d k h1) (d' k (s1 k h1)),
    fun k h => t1 k (s1 k h), fun k h => h.elim (fun h => t1 k (s2 k h)) (t2 k)⟩
theorem assoc' (A B C : HP) : Gives (HP.star A (HP.star B C)) (HP.star (HP.star A B) C) := by
  rintro w S ⟨S1, S23, a, ⟨S2, S3, b, c, d, s2, s3⟩, d', t1, t2⟩
  exact ⟨fun k => S1 k ∨ S2 k, S3, ⟨S1, S2, a, b, fun k h1 h2 => d' k h1 (s2 k h2), fun k h => .inl h, fun k h => .inr h⟩, c, fun k h h3 => h.elim (fun h1 => d' k h1 (s3 k h3)) (fun h2 => d k h2 h3),
    fun k h => h.elim (t1 k) (fun h => t2 k (s2 k h)), fun k h => t2 k (s3 k h)⟩
theorem swap (A B C : HP) : Gives (HP.star A (HP.star B C)) (HP.star B (HP.star A C)) := ((assoc' A B C).trans ((comm A B).star (refl C))).trans (assoc B A C)
theorem drop (A B : HP) : Gives (HP.star A B) B := fun w S ⟨S1, S2, a, b, d, s1, s2⟩ => B.mono b s2
theorem left (A B : HP) : Gives (HP.star A B) A := fun w S ⟨S1, S2, a, b, d, s1, s2⟩ => A.mono a s1
theorem emp_intro (A : HP) : Gives A (HP.star A emp) := fun w S a => ⟨S, fun _ => False, a, trivial, fun _ _ f => f, fun _ h => h, fun _ f => f.elim⟩
theorem emp_left (A : HP) : Gives A (HP.star emp A) := fun w S a => ⟨fun _ => False, S, trivial, a, fun _ f _ => f, fun _ f => f.elim, fun _ h => h⟩
theorem to_emp (A : HP) : Gives A emp := fun _ _ _ => trivial
theorem ex_intro {α : Type} {f : α → HP} (x : α) : Gives (f x) (ex f) := fun w S h => ⟨x, h⟩
theorem and_intro {p : Prop} {A : HP} (hp : p) : Gives A (HP.and p A) := fun w S h => ⟨hp, h⟩
theorem nil_row {α : Type} (d : Kd α) (e : TypeId) : Gives emp (row d e (.slice none 0 0) []) := fun w S _ => Kd.R_nil _ _ _ _ _
theorem row_cells {α : Type} {d : Kd α} {e : TypeId} {v : Value} {xs : List α} : Gives (row d e v xs) (cells (Kd.slice e d) xs [v]) := fun w S h => ⟨v, rfl, h⟩
/-- All of a list's, its element number i first. -/
theorem all_app : ∀ L M : List HP, Gives (all (L ++ M)) (HP.star (all L) (all M))
  | [], M => emp_left _
  | A :: L, M => ((refl A).star (all_app L M)).trans (assoc' _ _ _)
theorem app_all : ∀ L M : List HP, Gives (HP.star (all L) (all M)) (all (L ++ M))
  | [], M => drop _ _
  | A :: L, M => (assoc _ _ _).trans ((refl A).star (app_all L M))
end Gives

/-- Element number i of a list to its head. -/
def mv (L : List HP) : Nat → List HP
  | 0 => L
  | i + 1 => match L with
    | [] => []
    | A :: L => match mv L i with
      | [] => [A]
      | B :: M => B :: A :: M
/-- Element number i of a list left out. -/
def out (L : List HP) : Nat → List HP
  | 0 => L.tail
  | i + 1 => match L with
    | [] => []
    | A :: L => A :: out L i
theorem Gives.mv_ : ∀ (i : Nat) (L : List HP), Gives (all L) (all (mv L i))
  | 0, L => by
    unfold mv
    exact refl _
  | i + 1, [] => refl _
  | i + 1, A :: L => by
    have h := (refl A).star (mv_ i L)
    show Gives (HP.star A (all L)) (all (match mv L i with | [] => [A] | B :: M => B :: A :: M))
    cases e : mv L i with
    | nil => exact (refl A).star (to_emp _)
    | cons B M =>
      rw [e] at h
      exact h.trans (swap _ _ _)
theorem Gives.out_ : ∀ (i : Nat) (L : List HP), Gives (all L) (all (out L i))
  | 0, [] => refl _
  | 0, A :: L => drop _ _
  | i + 1, [] => refl _
  | i + 1, A :: L => (refl A).star (out_ i L)

/-- The state of a walk: since w0 nothing elder has been turned but S0's blocks; now all of L holds, of S0's blocks and newer ones. -/
structure St (w0 : World) (S0 : Nat → Prop) (w : World) (L : List HP) : Prop where
  ext : Ext w0 w S0
  holds : ∃ S, (all L).h w S ∧ ∀ k, S k → S0 k ∨ w0.heap.size ≤ k

namespace St
variable {w0 w w' : World} {S0 : Nat → Prop} {A B : HP} {F L M : List HP}
theorem start {S : Nat → Prop} (h : (all L).h w S) : St w S w L := ⟨Ext.refl _ _, S, h, fun k hk => .inl hk⟩
theorem start0 (w : World) : St w (fun _ => False) w [] := ⟨Ext.refl _ _, fun _ => False, trivial, fun k hk => hk.elim⟩
theorem conv (h : St w0 S0 w L) (hg : Gives (all L) (all M)) : St w0 S0 w M := ⟨h.ext, let ⟨S, a, s⟩ := h.holds; ⟨S, hg _ _ a, s⟩⟩
theorem mv (h : St w0 S0 w L) (i : Nat) : St w0 S0 w (Sl.mv L i) := h.conv (Gives.mv_ i L)
theorem out (h : St w0 S0 w L) (i : Nat) : St w0 S0 w (Sl.out L i) := h.conv (Gives.out_ i L)
theorem head (h : St w0 S0 w (A :: F)) (hg : Gives A B) : St w0 S0 w (B :: F) := h.conv (hg.star (Gives.refl _))
theorem drop (h : St w0 S0 w (A :: F)) : St w0 S0 w F := h.conv (Gives.drop _ _)
theorem later (h : St w0 S0 w L) (hb : Below w.heap.size w w') : St w0 S0 w' L :=
  ⟨h.ext.trans (Ext.of_below hb (fun _ => False)) (fun _ f => f.elim), let ⟨S, a, s⟩ := h.holds; ⟨S, (all L).step a (fun k _ hk => hb.block k hk), s⟩⟩
theorem drew (h : St w0 S0 w L) : St w0 S0 w.drew L := h.later (below_drew (Below.refl _ _))
theorem drewN (h : St w0 S0 w L) (n : Nat) : St w0 S0 (w.drewN n) L := h.later (pw_below_drewN (Below.refl _ _) n)
theorem drawn (h : St w0 S0 w L) (hd : Drawn0 w w') : St w0 S0 w' L := by obtain ⟨n, rfl⟩ := hd; exact h.drewN n
/-- A part has been turned by whatever keeps the rest. -/
theorem join {S1 SF : Nat → Prop} (ext : Ext w0 w S0) (f : (all F).h w SF) (d : ∀ k, S1 k → SF k → False) (s1 : ∀ k, S1 k → S0 k ∨ w0.heap.size ≤ k) (sf : ∀ k, SF k → S0 k ∨ w0.heap.size ≤ k)
    (h : St w S1 w' M) : St w0 S0 w' (M ++ F) := by
  obtain ⟨e, S2, b, t⟩ := h
  refine ⟨ext.trans e s1, fun k => S2 k ∨ (SF k ∧ k < w.heap.size), Gives.app_all _ _ _ _ ⟨S2, fun k => SF k ∧ k < w.heap.size, b, ?_, ?_, fun _ h => .inl h, fun _ h => .inr h⟩, ?_⟩
  · exact (all F).step ((all F).bound f) (fun k hk hlt => e.block k hlt (fun h1 => d k h1 hk.1))
  · intro k h1 h2
    rcases t k h1 with h3 | h3
    · exact d k h3 h2.1
    · omega
  · rintro k (h1 | h1)
    · rcases t k h1 with h3 | h3
      · exact s1 k h3
      · exact .inr (Nat.le_trans ext.size h3)
    · exact sf k h1.1
/-- The list's first part is turned: the rest stays. -/
theorem turn (h : St w0 S0 w (L ++ F)) (hs : ∀ S1, (all L).h w S1 → St w S1 w' M) : St w0 S0 w' (M ++ F) := by
  obtain ⟨ext, S, a, s⟩ := h
  obtain ⟨S1, SF, a, f, d, s1, s2⟩ := Gives.all_app _ _ _ _ a
  exact join ext f d (fun k hk => s k (s1 k hk)) (fun k hk => s k (s2 k hk)) (hs S1 a)
theorem turn1 (h : St w0 S0 w (A :: F)) (hs : ∀ S1, A.h w S1 → ∃ S2, B.h w' S2 ∧ Ext w w' S1 ∧ ∀ k, S2 k → S1 k ∨ w.heap.size ≤ k) : St w0 S0 w' (B :: F) :=
  turn (L := [A]) (M := [B]) h (fun S1 a => by
    obtain ⟨S2, b, e, t⟩ := hs S1 (Gives.left _ _ _ _ a)
    exact ⟨e, S2, Gives.emp_intro _ _ _ b, t⟩)
/-- Something new beside what there is. -/
theorem new_ (h : St w0 S0 w F) (hs : ∃ S2, B.h w' S2 ∧ Ext w w' (fun _ => False) ∧ ∀ k, S2 k → w.heap.size ≤ k) : St w0 S0 w' (B :: F) :=
  turn (L := []) (M := [B]) h (fun S1 _ => by
    obtain ⟨S2, b, e, t⟩ := hs
    exact ⟨e.mono (fun _ f => f.elim), S2, Gives.emp_intro _ _ _ b, fun k hk => .inr (t k hk)⟩)
theorem alloc (h : St w0 S0 w F) (o : Obj) : St w0 S0 (w.alloc o) (own w.heap.size o :: F) :=
  h.new_ ⟨fun k => k = w.heap.size, ⟨blk_new w o, rfl⟩, Ext.alloc w o _, fun k hk => by omega⟩
theorem idle (h : St w0 S0 w F) : St w0 S0 w (emp :: F) := h.conv (Gives.emp_left _)
theorem cells_ {α : Type} {d : Kd α} {x : α} {cs : List Value} (h : St w0 S0 w F) (hm : d.M w 0 (fun _ => False) x cs) : St w0 S0 w (HP.cells d x cs :: F) :=
  h.new_ ⟨fun _ => False, hm, Ext.refl _ _, fun _ f => f.elim⟩
theorem nil_ (h : St w0 S0 w F) {α : Type} (d : Kd α) (e : TypeId) : St w0 S0 w (row d e (.slice none 0 0) [] :: F) := h.idle.head (Gives.nil_row d e)
theorem add {p : Prop} (h : St w0 S0 w F) (hp : p) : St w0 S0 w (HP.pure p :: F) := h.idle.head (fun _ _ _ => hp)
theorem pure_ {p : Prop} (h : St w0 S0 w (HP.pure p :: F)) : p ∧ St w0 S0 w F := ⟨let ⟨S, ⟨S1, S2, a, _⟩, _⟩ := h.holds; a, h.drop⟩
theorem ex_ {α : Type} {f : α → HP} (h : St w0 S0 w (ex f :: F)) : ∃ x, St w0 S0 w (f x :: F) := by
  obtain ⟨e, S, ⟨S1, S2, ⟨x, a⟩, r⟩, s⟩ := h
  exact ⟨x, e, S, ⟨S1, S2, a, r⟩, s⟩
theorem and_ {p : Prop} (h : St w0 S0 w (HP.and p A :: F)) : p ∧ St w0 S0 w (A :: F) := by
  obtain ⟨e, S, ⟨S1, S2, ⟨x, a⟩, r⟩, s⟩ := h
  exact ⟨x, e, S, ⟨S1, S2, a, r⟩, s⟩
theorem star_ (h : St w0 S0 w (star A B :: F)) : St w0 S0 w (A :: B :: F) := h.conv (Gives.assoc _ _ _)
theorem unstar (h : St w0 S0 w (A :: B :: F)) : St w0 S0 w (star A B :: F) := h.conv (Gives.assoc' _ _ _)
theorem all_ (h : St w0 S0 w (Sl.all L :: F)) : St w0 S0 w (L ++ F) := h.conv (Gives.app_all _ _)
theorem unall (h : St w0 S0 w (L ++ F)) : St w0 S0 w (Sl.all L :: F) := h.conv (Gives.all_app _ _)
theorem ex_in {α : Type} {f : α → HP} (x : α) (h : St w0 S0 w (f x :: F)) : St w0 S0 w (ex f :: F) := h.head (Gives.ex_intro x)
theorem and_in {p : Prop} (hp : p) (h : St w0 S0 w (A :: F)) : St w0 S0 w (HP.and p A :: F) := h.head (Gives.and_intro hp)
theorem blk {g : Nat} {o : Obj} (h : St w0 S0 w (own g o :: F)) : w.heap[g]? = some o := let ⟨S, ⟨S1, S2, a, _⟩, _⟩ := h.holds; a.1
theorem blk_in {g : Nat} {o : Obj} (h : St w0 S0 w (own g o :: F)) : S0 g ∨ w0.heap.size ≤ g := let ⟨S, ⟨S1, S2, a, _, _, s1, _⟩, s⟩ := h.holds; s g (s1 g a.2)
theorem cell {g : Nat} {t : TypeId} {cs : List Value} (h : St w0 S0 w (obj g t cs :: F)) (j : Nat) : w.cell? ⟨g, j, none⟩ = cs[j]? := by
  have := h.blk
  simp [World.cell?, this]
theorem unfrozen {g : Nat} {t : TypeId} {cs : List Value} (h : St w0 S0 w (obj g t cs :: F)) (j : Nat) : w.frozen? ⟨g, j, none⟩ = false := by
  have := h.blk
  simp [World.frozen?, this]
theorem set {g : Nat} {t : TypeId} {cs : List Value} (h : St w0 S0 w (obj g t cs :: F)) (j : Nat) (v : Value) : St w0 S0 (w.setCell ⟨g, j, none⟩ v) (obj g t (cs.set j v) :: F) :=
  h.turn1 (fun S1 a => ⟨S1, ⟨by
    have h1 := a.1
    simp [World.setCell, Array.getElem?_modify, h1], a.2⟩, Ext.setCell w _ v a.2, fun k hk => .inl hk⟩)
theorem row_C {α : Type} {d : Kd α} {e : TypeId} {v : Value} {xs : List α} (h : St w0 S0 w (row d e v xs :: F)) : ∃ A c, v = .slice A xs.length c ∧ xs.length ≤ c ∧ d.C w A xs.length xs :=
  let ⟨S, ⟨S1, S2, a, _⟩, _⟩ := h.holds; Kd.R_reads a
theorem row_reads {α : Type} {d : Kd α} {e : TypeId} {A : Option Addr} {n c : Nat} {xs : List α} (h : St w0 S0 w (row d e (.slice A n c) xs :: F)) : n = xs.length ∧ n ≤ c ∧ d.C w A xs.length xs :=
  let ⟨S, ⟨S1, S2, a, _⟩, _⟩ := h.holds; Kd.R_reads' a
/-- What a call has made is beside the rest. -/
theorem made {α : Type} {d : Kd α} {e : TypeId} {v : Value} {xs : List α} {ok : Nat → Prop} (h : St w0 S0 w F) (hr : d.R e w' w.heap.size ok v xs) (hb : Below w.heap.size w w') : St w0 S0 w' (row d e v xs :: F) :=
  h.new_ ⟨fun k => w.heap.size ≤ k, Kd.R_lower (Kd.R_mono (Kd.R_bound hr) (fun k hk => hk.2.1)) (Nat.zero_le _), Ext.of_below hb _, fun k hk => hk⟩
theorem row_form {α : Type} {d : Kd α} {e : TypeId} {v : Value} {xs : List α} (h : St w0 S0 w (row d e v xs :: F)) (hp : 0 < xs.length) : ∃ g cap, v = .slice (some ⟨g, 0, none⟩) xs.length cap :=
  let ⟨S, ⟨S1, S2, a, _⟩, _⟩ := h.holds; let ⟨g, cap, e, _⟩ := Kd.R_form a hp; ⟨g, cap, e⟩
theorem row_cell {α : Type} {enc : α → Value} {h1 : ∀ x, (enc x).oneCell' = true} (dd : α) {e : TypeId} {g n cap : Nat} {xs : List α} (h : St w0 S0 w (row (Kd.scalar enc h1) e (.slice (some ⟨g, 0, none⟩) n cap) xs :: F)) (i : Nat) (hi : i < n) :
    w.cell? ⟨g, i, none⟩ = some (enc (xs.getD i dd)) ∧ w.frozen? ⟨g, i, none⟩ = false := by
  obtain ⟨S, ⟨S1, S2, a, _⟩, _⟩ := h.holds
  have := Kd.R_celln dd a (i : Int) (by omega) (by omega)
  exact this
/-- A store into a row of one-cell elements. -/
theorem row_set {α : Type} {enc : α → Value} {h1 : ∀ x, (enc x).oneCell' = true} {e : TypeId} {g n cap : Nat} {xs : List α} (h : St w0 S0 w (row (Kd.scalar enc h1) e (.slice (some ⟨g, 0, none⟩) n cap) xs :: F)) (i : Nat) (x : α) :
    St w0 S0 (w.setCell ⟨g, i, none⟩ (enc x)) (row (Kd.scalar enc h1) e (.slice (some ⟨g, 0, none⟩) n cap) (xs.set i x) :: F) :=
  h.turn1 (fun S1 a => ⟨S1, Kd.R_putn a (i : Int) x, Ext.setCell w _ _ (a.1 g (by simp [Value.ownBlock])), fun k hk => .inl hk⟩)
end St

/-- A function's contract: of memory for which all of A holds, R being so of whatever is elder and of what is handed over to be read, it returns, and all of B holds. -/
def Fun (P : Program) (f : FuncId) (args : Array Value) (R : World → Prop) (A : List HP) (B : Value → List HP) : Prop :=
  ∀ w S, (all A).h w S → (∀ w', Ext w w' S → R w') → Calls P f args w fun e w' => ∃ v, e = .returned v ∧ St w S w' (B v)

theorem Fun.call {P : Program} {f : FuncId} {args : Array Value} {R : World → Prop} {A F : List HP} {B : Value → List HP} {w0 w : World} {S0 : Nat → Prop} (hf : Fun P f args R A B) (h : St w0 S0 w (A ++ F))
    (hr : ∀ w' S', Ext w0 w' S0 → (all F).h w' S' → R w') : Calls P f args w fun e w' => ∃ v, e = .returned v ∧ St w0 S0 w' (B v ++ F) := by
  obtain ⟨ext, S, a, s⟩ := h
  obtain ⟨S1, SF, a, f', d, s1, s2⟩ := Gives.all_app _ _ _ _ a
  refine (hf w S1 a ?_).mono ?_
  · intro w' e
    exact hr w' (fun k => SF k ∧ k < w.heap.size) (ext.trans e (fun k hk => s k (s1 k hk))) ((all F).step ((all F).bound f') (fun k hk hlt => e.block k hlt (fun h1 => d k h1 hk.1)))
  · rintro e w' ⟨v, rfl, h'⟩
    exact ⟨v, rfl, St.join ext f' d (fun k hk => s k (s1 k hk)) (fun k hk => s k (s2 k hk)) h'⟩
/-- The same where the result is known. -/
def FunV (P : Program) (f : FuncId) (args : Array Value) (R : World → Prop) (A : List HP) (v : Value) (B : List HP) : Prop :=
  ∀ w S, (all A).h w S → (∀ w', Ext w w' S → R w') → Calls P f args w fun e w' => e = .returned v ∧ St w S w' B

theorem FunV.call {P : Program} {f : FuncId} {args : Array Value} {R : World → Prop} {A F B : List HP} {v : Value} {w0 w : World} {S0 : Nat → Prop} (hf : FunV P f args R A v B) (h : St w0 S0 w (A ++ F))
    (hr : ∀ w' S', Ext w0 w' S0 → (all F).h w' S' → R w') : Calls P f args w fun e w' => e = .returned v ∧ St w0 S0 w' (B ++ F) := by
  obtain ⟨ext, S, a, s⟩ := h
  obtain ⟨S1, SF, a, f', d, s1, s2⟩ := Gives.all_app _ _ _ _ a
  refine (hf w S1 a ?_).mono ?_
  · intro w' e
    exact hr w' (fun k => SF k ∧ k < w.heap.size) (ext.trans e (fun k hk => s k (s1 k hk))) ((all F).step ((all F).bound f') (fun k hk hlt => e.block k hlt (fun h1 => d k h1 hk.1)))
  · rintro e w' ⟨rfl, h'⟩
    exact ⟨rfl, St.join ext f' d (fun k hk => s k (s1 k hk)) (fun k hk => s k (s2 k hk)) h'⟩
/-- A contract that only reads, or makes memory. -/
theorem St.call_below {P : Program} {f : FuncId} {args : Array Value} {w0 w : World} {S0 : Nat → Prop} {L : List HP} {p : Value → World → Prop} (h : St w0 S0 w L)
    (hf : Calls P f args w fun e w' => ∃ v, e = .returned v ∧ p v w' ∧ Below w.heap.size w w') : Calls P f args w fun e w' => ∃ v, e = .returned v ∧ p v w' ∧ St w0 S0 w' L :=
  hf.mono (fun e w' ⟨v, he, hp, hb⟩ => ⟨v, he, hp, h.later hb⟩)

/-- A law's walk. -/
theorem FunV.law {P : Program} {f : FuncId} {args : Array Value} {R : World → Prop} {v : Value} {w : World} (h : FunV P f args R [] v []) (hr : ∀ w', Below w.heap.size w w' → R w') :
    Calls P f args w fun e w' => e = .returned v ∧ Below w.heap.size w w' :=
  (h w (fun _ => False) trivial (fun w' e => hr w' e.below)).mono (fun e w' ⟨he, hs⟩ => ⟨he, hs.ext.below⟩)

/-! ### Events of a walk -/
section
variable {P : Program} {ops : Array Oper} {rest : List Oper} {o : Oper} {a : Act} {Q : Exit → Act → World → Prop} {w0 W : World} {S0 : Nat → Prop} {F : List HP} {α : Type}
/-- A box, a build: a new block. -/
theorem ev_box (hgd : o.guard = none) {N : Tmp} (_hd : o.dst = some N) {cs : List Value} {t : TypeId} (H : St w0 S0 W F)
    (hrun : (execOp a.eval o).run P W = .ok (.value (.pointer (some ⟨W.heap.size, 0, none⟩))) (W.alloc (.cells cs.toArray t (0, 0))))
    (h : ∀ g w1, St w0 S0 w1 (obj g t cs :: F) → W.heap.size ≤ g → wpList P ops Q rest (a.put o.dst (.pointer (some ⟨g, 0, none⟩))) w1) : wpList P ops Q (o :: rest) a W :=
  Kd.event_run hgd hrun (h _ _ (H.alloc _) (Nat.le_refl _))
/-- A literal '[]T{..}'. -/
theorem ev_lit (d : Kd α) (e : Nat) (hgd : o.guard = none) {N : Tmp} (_hd : o.dst = some N) {xs : List α} {inner : List Value} (H : St w0 S0 W F)
    (hrun : (execOp a.eval o).run P W = .ok (.value (.slice (some ⟨W.heap.size, 0, none⟩) xs.length xs.length)) (W.alloc (.cells inner.toArray e)))
    (hrep : Reps (d.M W 0 (fun _ => False)) d.sz xs inner) (hm : xs.length ≤ 9223372036854775807)
    (h : ∀ v1 w1, St w0 S0 w1 (row d e v1 xs :: F) → wpList P ops Q rest (a.put o.dst v1) w1) : wpList P ops Q (o :: rest) a W := by
  refine Kd.R_lit d 0 e hgd _hd (ok := fun k => W.heap.size ≤ k) (okp := fun _ => False) (w0 := W) hrun hrep (fun _ f => f.elim) (Nat.le_refl _) (Below.refl _ _) (Nat.zero_le _) hm ?_
  intro v1 w1 ho hb hg hnew
  exact h v1 w1 (H.new_ ⟨_, ho, Ext.of_grown hg (fun k e => by cases e), fun k hk => hk⟩)
/-- append(v, p), p's cells boxed. -/
theorem ev_append (d : Kd α) (hgd : o.guard = none) (s x : Operand) (t e : TypeId) (z : Value) (bytes : Nat)
    (ho : o.op = .call { callee := .builtin .append, args := #[s, x], argTypes := #[t, t] })
    (ht : P.underlying t = some (.slice e)) (hinfo : (P.info? e).map (fun i => (i.zero, i.size, i.bytes)) = some (some z, d.sz, bytes)) (hz : z.cells.size = d.sz) (hs0 : 0 < d.sz) (hb0 : 0 < bytes)
    (v : Value) (xs : List α) (p : α) (cs : List Value) (hs : a.eval s = v) (hx : a.eval x = .slice (some ⟨W.heap.size, 0, none⟩) 1 1)
    (H : St w0 S0 W (row d e v xs :: cells d p cs :: F)) (hl : (xs.length + 1) * bytes ≤ 140737488355328)
    (h : ∀ v1 w1, St w0 S0 w1 (row d e v1 (xs ++ [p]) :: F) → wpList P ops Q rest (a.put o.dst v1) w1) :
    wpList P ops Q (o :: rest) a (W.alloc (.cells cs.toArray e)) := by
  obtain ⟨ext, S, ⟨S1, S', hv, ⟨S2, SF, hp, hf, d2, u1, u2⟩, d1, s1, s2⟩, sb⟩ := H
  have hsub : ∀ k, v.ownBlock = some k → S1 k := hv.1
  refine Kd.R_append d (w0 := W) 0 hgd s x t e z bytes ho ht hinfo hz hs0 hb0 v xs p cs (fun k => S1 k ∨ S2 k ∨ W.heap.size ≤ k) (fun k => S2 k) hs hx hp (fun k hk => ⟨.inr (.inl hk), fun e' => d1 k (hsub k e'.symm) (u1 k hk)⟩) (fun k hk => .inr (.inr hk))
    (Kd.R_mono hv (fun k hk => .inl hk)) (Below.refl _ _) (Nat.zero_le _) hl ?_
  intro v1 w1 h1 hb hg hat
  refine h v1 w1 (St.join (M := [row d e v1 (xs ++ [p])]) (S1 := fun k => S1 k ∨ S2 k) ext hf ?_ ?_ (fun k hk => sb k (s2 k (u2 k hk))) ?_)
  · rintro k (h2 | h2) h3
    · exact d1 k h2 (u2 k h3)
    · exact d2 k h2 h3
  · rintro k (h2 | h2)
    · exact sb k (s1 k h2)
    · exact sb k (s2 k (u1 k h2))
  · exact ⟨Ext.of_grown hg (fun k hk => .inl (hsub k hk)), _, Gives.emp_intro _ _ _ h1, fun k hk => by
      rcases hk with h2 | h2 | h2
      · exact .inl (.inl h2)
      · exact .inl (.inr h2)
      · exact .inr h2⟩
/-- An element's cells lead to no memory. -/
def Flat (d : Kd α) : Prop := ∀ w b x cs, d.K w x cs → d.M w b (fun _ => False) x cs
/-- append(v, ys...): ys only read, its elements flat. -/
theorem ev_rows (d : Kd α) (hflat : Flat d) (hgd : o.guard = none) (s x : Operand) (t e : TypeId) (z : Value) (bytes : Nat)
    (ho : o.op = .call { callee := .builtin .append, args := #[s, x], argTypes := #[t, t] })
    (ht : P.underlying t = some (.slice e)) (hinfo : (P.info? e).map (fun i => (i.zero, i.size, i.bytes)) = some (some z, d.sz, bytes)) (hz : z.cells.size = d.sz) (hs0 : 0 < d.sz) (hb0 : 0 < bytes)
    (v : Value) (xs ys : List α) (A : Option Addr) (c : Nat) (hs : a.eval s = v) (hx : a.eval x = .slice A ys.length c)
    (H : St w0 S0 W (row d e v xs :: F)) (HR : d.C W A ys.length ys) (hl : (xs.length + ys.length) * bytes ≤ 140737488355328)
    (h : ∀ v1 w1, St w0 S0 w1 (row d e v1 (xs ++ ys) :: F) → wpList P ops Q rest (a.put o.dst v1) w1) :
    wpList P ops Q (o :: rest) a W := by
  obtain ⟨ext, S, ⟨S1, SF, hv, hf, d1, s1, s2⟩, sb⟩ := H
  have hsub : ∀ k, v.ownBlock = some k → S1 k := hv.1
  refine Kd.R_append_rows d (Rr := d.K W) (w0 := W) 0 hgd s x t e z bytes ho ht hinfo hz hs0 hb0 v xs ys A ys.length c (fun k => S1 k ∨ W.heap.size ≤ k) (fun _ => False) hs hx
    (Kd.R_mono hv (fun k hk => .inl hk)) HR (fun x cs hk => hflat W 0 x cs hk) (fun k f => f.elim) (fun k hk => .inr hk) (Below.refl _ _) (Nat.zero_le _) hl ?_
  intro v1 w1 h1 hb hg hat
  refine h v1 w1 (St.join (M := [row d e v1 (xs ++ ys)]) (S1 := S1) ext hf d1 (fun k hk => sb k (s1 k hk)) (fun k hk => sb k (s2 k hk)) ?_)
  exact ⟨Ext.of_grown hg hsub, _, Gives.emp_intro _ _ _ h1, fun k hk => hk⟩
end
end Go.Proofs.Ytphenpncdhgdhaa.Sl
