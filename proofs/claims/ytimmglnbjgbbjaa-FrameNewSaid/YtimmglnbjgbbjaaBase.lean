/- What all texts of this seat's claims share: programs as plain data, how they lie in memory, and the relation 'all blocks but those of S are as they were'. A region that draws its order, whose first n operations only read and whose others come one behind the other: the first n are walked once, in the text's order, each at the cheap step. A region that draws its order, in which some operations read and others write or call: those that read may be taken first, where what they read stands in every world that the region comes through. A call through a function value that a slot holds. No conditions. -/
import Derived.Test.YtimmglnbjgbbjaaProg
import Derived.Test.YtimmglnbjgbbjaaWMore
import Derived.Test.YtimmglnbjgbbjaaWKept
import Derived.Test.YtimmglnbjgbbjaaWShare
import Derived.WalkKit
import Derived.Deep.QuietTactic
import Derived.BigQuiet
import Derived.StillTailTactics
import Derived.Lib.Hide
import Derived.Handy
import Derived.Deep.DeepCutAuto
import Derived.Deep.RegionHeld3
import Derived.OrdersHeld
import Derived.Test.YtimmglnbjgbbjaaWLast
set_option linter.unusedVariables false
namespace Go.Proofs.Ytimmglnbjgbbjaa
open Go.RowKit Go.Proofs.YtimmglnbjgbbjaaW.PrintWords
/-! ### Programs -/
structure In where
  op : Int
  a : Int
  b : Int
  c : Int
  k : Int
structure Fn where
  ar : Int
  code : List In
def zIn : In := ⟨0, 0, 0, 0, 0⟩
def zFn : Fn := ⟨0, []⟩
def inV (x : In) : Value := .agg #[.int .i64 x.op, .int .i64 x.a, .int .i64 x.b, .int .i64 x.c, .int .i64 x.k]
def kIn : Kd In := Kd.iso (Kd.pair (Kd.int .i64) (Kd.pair (Kd.int .i64) (Kd.pair (Kd.int .i64) (Kd.pair (Kd.int .i64) (Kd.int .i64))))) (fun x : In => (x.op, x.a, x.b, x.c, x.k))
def kFn (e : Nat) : Kd Fn := Kd.iso (Kd.pair (Kd.int .i64) (Kd.slice e kIn)) (fun x : Fn => (x.ar, x.code))
theorem kIn_open {w : World} {x : In} {cs : List Value} (h : kIn.K w x cs) : cs = [.int .i64 x.op, .int .i64 x.a, .int .i64 x.b, .int .i64 x.c, .int .i64 x.k] := by
  obtain ⟨_, _, rfl, rfl, ⟨_, _, rfl, rfl, ⟨_, _, rfl, rfl, ⟨_, _, rfl, rfl, rfl⟩⟩⟩⟩ := h
  exact rfl
theorem kFn_open {e : Nat} {w : World} {x : Fn} {cs : List Value} (h : (kFn e).K w x cs) : ∃ A1 c1, cs = [.int .i64 x.ar, .slice A1 x.code.length c1] ∧ x.code.length ≤ c1 ∧ kIn.C w A1 x.code.length x.code := by
  obtain ⟨_, _, rfl, rfl, ⟨A1, c1, rfl, l1, g1⟩⟩ := h
  exact ⟨A1, c1, rfl, l1, g1⟩
/-- An instruction of a row, by its place. -/
theorem at_in {w : World} {A : Option Addr} {n : Nat} {xs : List In} (h : Kd.C kIn w A n xs) (i : Nat) (x : In) (hx : xs[i]? = some x) :
    ∃ ad, A = some ad ∧ w.cell? (ad.add (i * 5)) = some (.int .i64 x.op) ∧ w.cell? ⟨(ad.add (i * 5)).block, (ad.add (i * 5)).off + 1, none⟩ = some (.int .i64 x.a) ∧ w.cell? ⟨(ad.add (i * 5)).block, (ad.add (i * 5)).off + 2, none⟩ = some (.int .i64 x.b) ∧
      w.cell? ⟨(ad.add (i * 5)).block, (ad.add (i * 5)).off + 3, none⟩ = some (.int .i64 x.c) ∧ w.cell? ⟨(ad.add (i * 5)).block, (ad.add (i * 5)).off + 4, none⟩ = some (.int .i64 x.k) ∧ (ad.add (i * 5)).block < w.heap.size := by
  have hl : i < xs.length := (List.getElem?_eq_some_iff.1 hx).1
  have hln : xs.length = n := h.1
  obtain ⟨ad, c, e, _, hK, hc0⟩ := Kd.C_get h zIn (i : Int) (by omega) (by omega)
  rw [show ((i : Int)).toNat = i from rfl] at hK hc0
  have hx' : xs.getD i zIn = x := by rw [List.getD_eq_getElem?_getD, hx]; rfl
  rw [hx'] at hK
  have hc : ∀ j u, c[j]? = some u → w.cell? (ad.add (i * 5 + j)) = some u := hc0
  obtain rfl := kIn_open hK
  exact ⟨ad, e, hc 0 _ rfl, by rw [← add_field _ _ 1 (by omega)]; exact hc 1 _ rfl, by rw [← add_field _ _ 2 (by omega)]; exact hc 2 _ rfl, by rw [← add_field _ _ 3 (by omega)]; exact hc 3 _ rfl, by rw [← add_field _ _ 4 (by omega)]; exact hc 4 _ rfl, World.block_lt_of_cell? w (ad.add (i * 5)) (hc 0 _ rfl)⟩
/-- A function of a program, by its place. -/
theorem at_fn {e : Nat} {w : World} {A : Option Addr} {n : Nat} {xs : List Fn} (h : Kd.C (kFn e) w A n xs) (i : Nat) (x : Fn) (hx : xs[i]? = some x) :
    ∃ ad A1 c1, A = some ad ∧ w.cell? (ad.add (i * 2)) = some (.int .i64 x.ar) ∧ w.cell? ⟨(ad.add (i * 2)).block, (ad.add (i * 2)).off + 1, none⟩ = some (.slice A1 x.code.length c1) ∧ x.code.length ≤ c1 ∧ kIn.C w A1 x.code.length x.code ∧ (ad.add (i * 2)).block < w.heap.size := by
  have hl : i < xs.length := (List.getElem?_eq_some_iff.1 hx).1
  have hln : xs.length = n := h.1
  obtain ⟨ad, c, e, _, hK, hc0⟩ := Kd.C_get h zFn (i : Int) (by omega) (by omega)
  rw [show ((i : Int)).toNat = i from rfl] at hK hc0
  have hx' : xs.getD i zFn = x := by rw [List.getD_eq_getElem?_getD, hx]; rfl
  rw [hx'] at hK
  have hc : ∀ j u, c[j]? = some u → w.cell? (ad.add (i * 2 + j)) = some u := hc0
  obtain ⟨A1, c1, rfl, l1, g1⟩ := kFn_open hK
  exact ⟨ad, A1, c1, e, hc 0 _ rfl, by rw [← add_field _ _ 1 (by omega)]; exact hc 1 _ rfl, l1, g1, World.block_lt_of_cell? w (ad.add (i * 2)) (hc 0 _ rfl)⟩
/-! ### Worlds -/
/-- All blocks of w but those of S stand in w' as they did. -/
structure Keep (S : Nat → Prop) (w w' : World) : Prop where
  os : w'.os = w.os
  tape : w'.tape = w.tape
  output : w'.output = w.output
  size : w.heap.size ≤ w'.heap.size
  blk : ∀ k, k < w.heap.size → ¬ S k → w'.heap[k]? = w.heap[k]?
section
variable {S S2 S' : Nat → Prop} {w W W2 : World}
theorem Keep.refl (S : Nat → Prop) (w : World) : Keep S w w := ⟨rfl, rfl, rfl, Nat.le_refl _, fun _ _ _ => rfl⟩
theorem Keep.then_ (h : Keep S w W) (k : Keep S2 W W2) (hs : ∀ k, S2 k → S k ∨ w.heap.size ≤ k) : Keep S w W2 :=
  ⟨k.os.trans h.os, k.tape.trans h.tape, k.output.trans h.output, Nat.le_trans h.size k.size, fun i hi hn =>
    (k.blk i (Nat.lt_of_lt_of_le hi h.size) (fun h2 => (hs i h2).elim hn (fun h3 => by omega))).trans (h.blk i hi hn)⟩
theorem Keep.trans (h : Keep S w W) (k : Keep S W W2) : Keep S w W2 := h.then_ k (fun _ hk => .inl hk)
theorem Keep.mono (h : Keep S w W) (hs : ∀ k, S k → S' k) : Keep S' w W := ⟨h.os, h.tape, h.output, h.size, fun i hi hn => h.blk i hi (fun hk => hn (hs i hk))⟩
theorem Keep.of_below (S : Nat → Prop) (h : Below w.heap.size w W) : Keep S w W := ⟨h.os, h.tape, h.output, h.size, fun i hi _ => h.block i hi⟩
theorem Keep.below (h : Keep (fun _ => False) w W) : Below w.heap.size w W := ⟨h.os, h.tape, h.output, h.size, fun i hi => h.blk i hi id⟩
theorem Keep.belowB {B : Nat} (h : Keep S w W) (hB : B ≤ w.heap.size) (hS : ∀ k, S k → B ≤ k) : Below B w W := ⟨h.os, h.tape, h.output, h.size, fun i hi => h.blk i (by omega) (fun hk => by have := hS i hk; omega)⟩
theorem Keep.alloc (h : Keep S w W) (o : Obj) : Keep S w (W.alloc o) := h.then_ (Keep.of_below (fun _ => False) (below_alloc (Below.refl _ _) o)) (fun _ hk => hk.elim)
theorem Keep.allocs (h : Keep S w W) (hs : W.heap.size = w.heap.size) (o : Obj) : Keep S (w.alloc o) (W.alloc o) :=
  ⟨h.os, h.tape, h.output, by simp [hs], fun k hk hn => by
    rcases Nat.lt_or_ge k w.heap.size with hl | hl
    · rw [heap_alloc_old w o hl, heap_alloc_old W o (by omega)]; exact h.blk k hl hn
    · have e : k = w.heap.size := by have : (w.alloc o).heap.size = w.heap.size + 1 := by simp
                                     omega
      rw [e, heap_alloc_new, ← hs, heap_alloc_new]⟩
theorem Keep.drew (h : Keep S w W) : Keep S w W.drew := ⟨h.os, h.tape, h.output, h.size, h.blk⟩
theorem Keep.drewN (h : Keep S w W) (m : Nat) : Keep S w (W.drewN m) := ⟨h.os, h.tape, h.output, h.size, h.blk⟩
theorem Keep.left (h : Keep S w W) : Keep S w.drew W := ⟨h.os, h.tape, h.output, h.size, h.blk⟩
theorem Keep.leftN {m : Nat} (h : Keep S w W) : Keep S (w.drewN m) W := ⟨h.os, h.tape, h.output, h.size, h.blk⟩
theorem Keep.setCell (h : Keep S w W) {p : Addr} (hp : S p.block ∨ w.heap.size ≤ p.block) (u : Value) : Keep S w (W.setCell p u) :=
  h.then_ (S2 := fun k => k = p.block) ⟨rfl, rfl, rfl, by simp [World.setCell], fun i _ hn => Below.heap_setCell W p u i hn⟩ (fun k hk => by rw [hk]; exact hp)
theorem Keep.thenBelow (h : Keep S w W) (k : Below W.heap.size W W2) : Keep S w W2 := h.then_ (Keep.of_below (fun _ => False) k) (fun _ hk => hk.elim)
theorem Keep.grown {row : Option Nat} (h : Keep S w W) (hg : W.grownBy W2 row) (hr : ∀ k, row = some k → S k ∨ w.heap.size ≤ k) : Keep S w W2 :=
  h.then_ (S2 := fun k => row = some k) ⟨hg.os, hg.tape, hg.output, hg.size, fun i hi hn => hg.block i hi (fun he => hn he.symm)⟩ hr
theorem Keep.heap {k : Nat} {o : Obj} (h : Keep S w W) (hb : w.heap[k]? = some o) (hn : ¬ S k) : W.heap[k]? = some o := (h.blk k (blk_lt hb) hn).trans hb
theorem Keep.cell {a : Addr} {v : Value} (h : Keep S w W) (hc : w.cell? a = some v) (hn : ¬ S a.block) : W.cell? a = some v := by
  have := h.blk a.block (World.block_lt_of_cell? w a hc) hn
  simpa [World.cell?, this] using hc
theorem Keep.F {α : Type} {d : Kd α} {ok : Nat → Prop} {A : Option Addr} {n : Nat} {xs : List α} (h : Keep S w W) (hF : Kd.F d w ok A n xs) (hn : ∀ k, ok k → ¬ S k) : Kd.F d W ok A n xs := Kd.F_step hF (fun k hk hlt => h.blk k hlt (hn k hk))
end
theorem below_thenB {w W W2 : World} (h : Below w.heap.size w W) (k : Below W.heap.size W W2) : Below w.heap.size w W2 := below_then h h.size k
/-- Behind a call that leaves what was there: cells and marks as they were. -/
theorem bcell {W w1 : World} (hb : Below W.heap.size W w1) : (∀ b o, b < W.heap.size → w1.cell? ⟨b, o, none⟩ = W.cell? ⟨b, o, none⟩) ∧ (∀ b o, b < W.heap.size → w1.frozen? ⟨b, o, none⟩ = W.frozen? ⟨b, o, none⟩) :=
  ⟨fun b o h => hb.cell (p := ⟨b, o, none⟩) h, fun b o h => hb.frozen (p := ⟨b, o, none⟩) h⟩
/-- Blocks behind the world's moves. -/
theorem heap_lt_alloc {w : World} {k : Nat} {x o : Obj} (h : w.heap[k]? = some x) : (w.alloc o).heap[k]? = some x := (heap_alloc_old w o (blk_lt h)).trans h
theorem heap_at_alloc {w : World} {k : Nat} {o : Obj} (h : k = w.heap.size) : (w.alloc o).heap[k]? = some o := by subst h; exact heap_alloc_new w o
theorem heap_far {w : World} {k : Nat} {x : Obj} {p : Addr} {u : Value} (h : w.heap[k]? = some x) (hn : k ≠ p.block) : (w.setCell p u).heap[k]? = some x := (heap_setCell_other w p k u hn).trans h
theorem heap_near {w : World} {k i : Nat} {cs cs' : Array Value} {t : TypeId} {u : Value} (h : w.heap[k]? = some (.cells cs t (0, 0))) (he : cs.setIfInBounds i u = cs') : (w.setCell ⟨k, i, none⟩ u).heap[k]? = some (.cells cs' t (0, 0)) := by
  rw [← he]; exact heap_setCell_same w k i cs t u h
theorem blk_below {w w1 : World} {k : Nat} {o : Obj} (h : w.heap[k]? = some o) (hb : Below w.heap.size w w1) : w1.heap[k]? = some o := (hb.block k (blk_lt h)).trans h
theorem heap_drew1 {w : World} {k : Nat} {x : Option Obj} (h : w.heap[k]? = x) : w.drew.heap[k]? = x := h
theorem heap_drewN1 {w : World} {k m : Nat} {x : Option Obj} (h : w.heap[k]? = x) : (w.drewN m).heap[k]? = x := h
/-- A panic of the text's own. -/
@[go_sem] theorem run_panic_iface {P : Program} (t : TypeId) (v : Value) (w : World) : (Instr.panic (.iface t v)).run P w = .halt (.panic (.iface t v)) w := rfl
end Go.Proofs.Ytimmglnbjgbbjaa
namespace Go.Proofs.Ytimmglnbjgbbjaa
open Go.RowKit Go.Proofs.YtimmglnbjgbbjaaW.PrintWords
section
variable {P : Program} {ops : Array Oper} {W : World}
theorem still_of_quiet {o : Oper} {a : Act} {K : Act → Prop} (h : o.quiet P a (fun w' => w' = W) K) : o.still P a W K := by
  obtain ⟨v, h1, h2⟩ := h
  have h3 := h1 W rfl
  unfold Oper.quietAt at h3
  unfold Oper.still
  generalize (execOp a.eval o).run P W = r at *
  cases r with
  | ok n w' =>
    cases n <;> simp only [Oper.quietUpon] at h3 <;> simp only [Oper.stillUpon]
    case value u =>
      obtain ⟨e1, e2⟩ := h3
      exact ⟨e1, by rw [e2]; exact h2⟩
    case skip =>
      obtain ⟨e1, e2⟩ := h3
      exact ⟨e1, by rw [← e2]; exact h2⟩
    case enter f args => exact ⟨h3.1, v, h3.2, h2⟩
  | halt x w' => simp only [Oper.quietUpon] at h3
theorem wpStill_of_quiet {Q : Act → Prop} : ∀ (l : List Oper) (a : Act), wpQuiet P ops (fun w' => w' = W) Q l a → wpStill P ops W Q l a
  | [], _, h => h
  | o :: l, a, h => by
    unfold wpQuiet at h
    unfold wpStill
    split
    · rename_i hw
      rw [if_pos hw] at h
      exact Oper.still_mono (fun a h' => wpStill_of_quiet l a h') (still_of_quiet h)
    · rename_i hw
      rw [if_neg hw] at h
      exact wpStill_of_quiet l _ h
theorem wp_region_head {id : Nat} {Q : Exit → Act → World → Prop} {a : Act} {w : World} {l : List Oper} (n : Nat) (hm : P.follows .mixedOrders = true) (hB : Region.lexTailB .any l.toArray n = true)
    (h : wpQuiet P l.toArray (fun w' => w' = w.drew) (fun a' => wpList P l.toArray Q (l.drop n) a' w.drew) (l.take n) a) : (Code.region id l.toArray true).wp P Q a w :=
  wp_region_still_tail n hm hB (wpStill_of_quiet _ _ h)
end
end Go.Proofs.Ytimmglnbjgbbjaa
namespace Go.Proofs.Ytimmglnbjgbbjaa
open Go.RowKit Go.Proofs.YtimmglnbjgbbjaaW.PrintWords
/-- Operations that hand back a value and enter nothing. -/
def quietKind : Op → Bool
  | .move _ | .assign _ | .pick .. | .load .. | .binOp .. | .unOp .. | .convert .. | .makeInterface .. | .slice .. | .fieldAddr .. | .field .. | .indexAddr .. | .index .. | .lookup .. | .extract .. | .build .. => true
  | .nilCheck _ => true
  | .call { callee := .builtin .len, .. } | .call { callee := .builtin .cap, .. } => true
  | _ => false
/-- A value, or it halts. -/
def Plain (r : Result Next) : Prop := (∃ v w, r = .ok (.value v) w) ∨ ∃ h w, r = .halt h w
theorem plain_v {P : Program} (s : Sem Value) (w : World) : Plain ((do pure (Next.value (← s)) : Sem Next).run P w) := by
  rw [Sem.run_bind]
  cases hs : s.run P w with
  | ok v w' => exact .inl ⟨v, w', by simp⟩
  | halt h w' => exact .inr ⟨h, w', by simp⟩
theorem plain_bind {P : Program} {α : Type} (s : Sem α) (f : α → Sem Next) (hf : ∀ a w, Plain ((f a).run P w)) (w : World) : Plain ((do f (← s) : Sem Next).run P w) := by
  rw [Sem.run_bind]
  cases hs : s.run P w with
  | ok v w' => simpa using hf v w'
  | halt h w' => exact .inr ⟨h, w', by simp⟩
theorem plain_nil {P : Program} (w : World) : Plain ((runtimePanic .nilDeref : Sem Next).run P w) := .inr ⟨_, _, rfl⟩
theorem plain_of_kind {P : Program} (ρ : Operand → Value) (o : Oper) (h : quietKind o.op = true) (w : World) : Plain ((execOp ρ o).run P w) := by
  obtain ⟨dst, op, ty, pos, after, guard⟩ := o
  cases op
  case nilCheck x =>
    simp only [execOp]
    split
    all_goals try exact .inl ⟨_, _, rfl⟩
    all_goals try exact plain_nil w
    split
    all_goals try exact .inl ⟨_, _, rfl⟩
    all_goals try exact plain_nil w
    refine plain_bind _ _ (fun p w => ?_) w
    refine plain_bind _ _ (fun p w => ?_) w
    split
    · exact .inr ⟨_, _, rfl⟩
    · exact .inl ⟨_, _, rfl⟩
  case call c =>
    obtain ⟨callee, args, ats⟩ := c
    cases callee
    case builtin b =>
      cases b
      all_goals first | (exfalso; simp [quietKind] at h; done) | exact plain_v _ w
    all_goals exact absurd h (by simp [quietKind])
  all_goals first | (exfalso; simp [quietKind] at h; done) | exact .inl ⟨_, _, rfl⟩ | exact plain_v _ w | exact plain_bind _ _ (fun b w => by split <;> exact .inl ⟨_, _, rfl⟩) w
/-- Worlds that have all of W's blocks but those of S0. -/
def Wd (W : World) (S0 : Nat → Prop) : Type := { w' : World // Keep S0 W w' }
instance Wd.some_ (W : World) (S0 : Nat → Prop) : Nonempty (Wd W S0) := ⟨⟨W, Keep.refl _ _⟩⟩
@[go_sem] theorem Wd.cell {W : World} {S0 : Nat → Prop} (x : Wd W S0) (b o : Nat) (h : b < W.heap.size) (hn : ¬ S0 b) : x.1.cell? ⟨b, o, none⟩ = W.cell? ⟨b, o, none⟩ := by
  have := x.2.blk b h hn
  simp [World.cell?, this]
@[go_sem] theorem Wd.cellA {W : World} {S0 : Nat → Prop} (x : Wd W S0) (p : Addr) (h : p.block < W.heap.size) (hn : ¬ S0 p.block) : x.1.cell? p = W.cell? p := by
  have := x.2.blk p.block h hn
  simp [World.cell?, this]
@[go_sem] theorem Wd.cell_drew {W : World} {S0 : Nat → Prop} (x : Wd W.drew S0) (b o : Nat) (h : b < W.heap.size) (hn : ¬ S0 b) : x.1.cell? ⟨b, o, none⟩ = W.cell? ⟨b, o, none⟩ := Wd.cell x b o h hn
@[go_sem] theorem Wd.cellA_drew {W : World} {S0 : Nat → Prop} (x : Wd W.drew S0) (p : Addr) (h : p.block < W.heap.size) (hn : ¬ S0 p.block) : x.1.cell? p = W.cell? p := Wd.cellA x p h hn
@[go_sem] theorem Wd.frozen {W : World} {S0 : Nat → Prop} (x : Wd W S0) (b o : Nat) (h : b < W.heap.size) (hn : ¬ S0 b) : x.1.frozen? ⟨b, o, none⟩ = W.frozen? ⟨b, o, none⟩ := by
  have := x.2.blk b h hn
  simp [World.frozen?, this]
/-- Does the operation z wait for the operation i, by one edge or by several? -/
def waitsT (ops : Array Oper) : Nat → Nat → Nat → Bool
  | 0, _, _ => false
  | n + 1, z, i => match ops[z]? with
    | some o => o.after.any (fun e => Region.binds .any e && e.on == i) || o.after.any (fun e => Region.binds .any e && waitsT ops n e.on i)
    | none => false
def waits (ops : Array Oper) (z i : Nat) : Bool := decide (ops.size ≤ z) || waitsT ops 6 z i
/-- What has come up has come up behind all that it waits for. -/
def Closed (ops : Array Oper) (listed : Array Bool) : Prop := ∀ (k : Nat) (o : Oper), ops[k]? = some o → listed.getD k false = true → ∀ e ∈ o.after, Region.binds .any e = true → listed.getD e.on false = true
def closedB (ops : Array Oper) (listed : Array Bool) : Bool := (List.range ops.size).all fun k => !listed.getD k false || match ops[k]? with
  | some o => o.after.all (fun e => !Region.binds .any e || listed.getD e.on false)
  | none => true
theorem closed_of {ops : Array Oper} {listed : Array Bool} (h : closedB ops listed = true) : Closed ops listed := fun k o ho hk e he hb => by
  have hlt : k < ops.size := (Array.getElem?_eq_some_iff.1 ho).1
  have h1 := List.all_eq_true.1 h k (List.mem_range.2 hlt)
  rw [ho, hk] at h1
  simp only [Bool.not_true, Bool.false_or] at h1
  obtain ⟨j, hj, rfl⟩ := Array.mem_iff_getElem.1 he
  have h2 := Array.all_eq_true.1 h1 j hj
  rw [hb] at h2
  simpa using h2
theorem Closed.set {ops : Array Oper} {listed : Array Bool} {j : Nat} (h : Closed ops listed) (hj : j ∈ Region.ready .any ops listed) : Closed ops (listed.setIfInBounds j true) := fun k o ho hk e he hb => by
  by_cases e1 : j = k
  · subst e1
    obtain ⟨-, o', ho', hall⟩ := mem_ready.1 hj
    obtain rfl := Option.some.inj (ho.symm.trans ho')
    exact getD_set_true (hall e he hb)
  · rw [getD_set_ne false e1] at hk
    exact getD_set_true (h k o ho hk e he hb)
theorem waits_not {ops : Array Oper} {listed : Array Bool} {i : Nat} (hc : Closed ops listed) (hi : listed.getD i false = false) : ∀ (n k : Nat) (o : Oper), ops[k]? = some o → waitsT ops n k i = true → (∀ e ∈ o.after, Region.binds .any e = true → listed.getD e.on false = true) → False
  | 0, _, _, _, h, _ => by simp [waitsT] at h
  | n + 1, k, o, ho, h, hall => by
    unfold waitsT at h
    rw [ho] at h
    simp only [Bool.or_eq_true] at h
    rcases h with h | h
    · obtain ⟨m, hm, hb⟩ := Array.any_eq_true.1 h
      rw [Bool.and_eq_true, beq_iff_eq] at hb
      have := hall _ (Array.getElem_mem hm) hb.1
      rw [hb.2, hi] at this
      cases this
    · obtain ⟨m, hm, hb⟩ := Array.any_eq_true.1 h
      rw [Bool.and_eq_true] at hb
      have hl := hall _ (Array.getElem_mem hm) hb.1
      cases ho2 : ops[(o.after[m]'hm).on]? with
      | none => exact absurd hb.2 (by cases n <;> simp [waitsT, ho2])
      | some o2 => exact waits_not hc hi n _ o2 ho2 hb.2 (fun e he hbe => hc _ o2 ho2 hl e he hbe)
/-- Whatever order is picked from here on; and S holds behind every operation but the last, z. -/
def wpAnyG (P : Program) (ops : Array Oper) (Q : Exit → Act → World → Prop) (S : World → Prop) (z : Nat) : Nat → Array Bool → Act → World → Prop
  | 0, listed, a, w => Region.ready .any ops listed = [] ∧ Q .normal a w
  | fuel + 1, listed, a, w => (Region.ready .any ops listed = [] → Q .normal a w) ∧ ∀ i ∈ Region.ready .any ops listed, wpOp P ops Q i (fun a' w' => (i ≠ z → S w') ∧ wpAnyG P ops Q S z fuel (listed.setIfInBounds i true) a' w') a w
theorem wpAny_of_G {P : Program} {ops : Array Oper} {Q : Exit → Act → World → Prop} {S : World → Prop} {z : Nat} : ∀ (fuel : Nat) (listed : Array Bool) (a : Act) (w : World), wpAnyG P ops Q S z fuel listed a w → wpAny P .any ops Q fuel listed a w
  | 0, _, _, _, h => h
  | fuel + 1, _, _, _, h => ⟨h.1, fun i hi => wpOp_mono (fun _ _ h' => wpAny_of_G fuel _ _ _ h'.2) (h.2 i hi)⟩
theorem wpAnyG_first {P : Program} {ops : Array Oper} {Q : Exit → Act → World → Prop} {S : World → Prop} {z i : Nat} {oi : Oper} {v : Value} (hi : ops[i]? = some oi) (hsel : ∀ (j : Nat) (o : Oper) cs b, ops[j]? = some o → o.op ≠ .select cs b)
    (hQ : ∀ c a w, Q (.panic c) (a.put oi.dst v) w → Q (.panic c) a w) (hz : i ≠ z) (hwz : waits ops z i = true) : ∀ (fuel : Nat) (listed : Array Bool) (a : Act) (w : World), Closed ops listed →
      (∀ j oj, ops[j]? = some oj → j ≠ i → listed.getD j true = false → (∀ e ∈ oj.after, Region.binds .any e = true → e.on ≠ i) → oi.apart ops oj = true) →
      i ∈ Region.ready .any ops listed → YieldsIf P ops S oi v a → S w →
      wpAnyG P ops Q S z fuel (listed.setIfInBounds i true) (a.put oi.dst v) w → wpAnyG P ops Q S z (fuel + 1) listed a w := by
  intro fuel
  induction fuel with
  | zero =>
    intro listed a w _ _ hr hy hS H
    refine ⟨fun h => (by rw [h] at hr; cases hr), fun j hj => ?_⟩
    by_cases hji : j = i
    · subst hji; exact hy.wpOp hi hS ⟨fun _ => hS, H⟩
    · have h0 := ready_mono hj hji
      rw [H.1] at h0
      cases h0
  | succ fuel ih =>
    intro listed a w hcl hfree hr hy hS H
    refine ⟨fun h => (by rw [h] at hr; cases hr), fun j hj => ?_⟩
    by_cases hji : j = i
    · subst hji; exact hy.wpOp hi hS ⟨fun _ => hS, H⟩
    have h1 := H.2 j (ready_mono hj hji)
    obtain ⟨hjun, oj, hoj, hall⟩ := mem_ready.1 hj
    have hnot : ∀ e ∈ oj.after, Region.binds .any e = true → e.on ≠ i := fun e he hb heq => by
      have g1 := hall e he hb
      have g0 := (mem_ready.1 hr).1
      rw [heq] at g1
      rcases Nat.lt_or_ge i listed.size with h' | h'
      · simp [h'] at g0 g1; rw [g0] at g1; cases g1
      · simp [Array.getElem?_eq_none h'] at g1
    have hjz : j ≠ z := fun he => by
      subst he
      have hjl : j < ops.size := (Array.getElem?_eq_some_iff.1 hoj).1
      have hlf : listed.getD i false = false := by
        have g0 := (mem_ready.1 hr).1
        rcases Nat.lt_or_ge i listed.size with h' | h'
        · simp [h'] at g0 ⊢; exact g0
        · simp [Array.getElem?_eq_none h'] at g0
      unfold waits at hwz
      rw [decide_eq_false (by omega), Bool.false_or] at hwz
      exact waits_not hcl hlf 6 j oj hoj hwz hall
    have h2 := wpOp_putIf hoj (hfree j oj hoj hji hjun hnot) (fun cs b => hsel i oi cs b hi) (fun cs b => hsel j oj cs b hoj) hQ hy h1
    have hfree' : ∀ k ok, ops[k]? = some ok → k ≠ i → (listed.setIfInBounds j true).getD k true = false → (∀ e ∈ ok.after, Region.binds .any e = true → e.on ≠ i) → oi.apart ops ok = true := fun k ok hk hki hun hno => by
      refine hfree k ok hk hki ?_ hno
      by_cases hjk : j = k
      · subst hjk; exact hjun
      · rw [getD_set_ne true hjk] at hun; exact hun
    refine wpOp_mono (fun a' w' h3 => ⟨h3.2.1, ih (listed.setIfInBounds j true) a' w' (hcl.set hj) hfree' (ready_mono hr (Ne.symm hji)) h3.1 (h3.2.1 hjz) ?_⟩) h2
    rw [Array.setIfInBounds_comm _ _ hji]
    exact h3.2.2
theorem wpAnyG_all {P : Program} {ops : Array Oper} {Q : Exit → Act → World → Prop} {S : World → Prop} {z : Nat} {rs : List Nat} {fuel : Nat} {listed : Array Bool} {a : Act} {w : World} (hr : Region.ready .any ops listed = rs) (hne : rs ≠ [])
    (h : ∀ i ∈ rs, wpOp P ops Q i (fun a' w' => (i ≠ z → S w') ∧ wpAnyG P ops Q S z fuel (listed.setIfInBounds i true) a' w') a w) : wpAnyG P ops Q S z (fuel + 1) listed a w :=
  ⟨fun h0 => absurd (hr ▸ h0) hne, hr ▸ h⟩
/-- At a panic: nothing. -/
def noPanic (Q : Exit → Act → World → Prop) : Exit → Act → World → Prop
  | .panic _, _, _ => False
  | e, a, w => Q e a w
theorem noPanic_normal {Q : Exit → Act → World → Prop} {a : Act} {w : World} (h : Q .normal a w) : noPanic Q .normal a w := h
section
variable {P : Program} {ops : Array Oper} {Q : Exit → Act → World → Prop} {W : World} {S0 : Nat → Prop} {z fuel : Nat} {listed : Array Bool} {a : Act} {w : World} {o : Oper}
theorem plan_begin {id : Nat} {a : Act} {w : World} {l : List Oper} (S0 : Nat → Prop) (z n : Nat) (hn : l.length = n) (hm : P.follows .mixedOrders = true)
    (h : Keep S0 w w.drew → wpAnyG P l.toArray Q (fun w' => ∃ x : Wd w S0, w' = x.1) z n (Array.replicate n false) a w.drew) : (Code.region id l.toArray true).wp P Q a w := by
  subst hn
  exact wp_region_any hm (wpAny_of_G _ _ _ _ (by simpa using h (Keep.drew (Keep.refl _ _))))
theorem plan_noPanic {c : Code} (h : c.wp P (noPanic Q) a w) : c.wp P Q a w := Code.wp_mono (fun e a w h => by cases e <;> first | exact h | exact h.elim) h
theorem in_class (h : Keep S0 W w) : ∃ x : Wd W S0, w = x.1 := ⟨⟨w, h⟩, rfl⟩
/-- Take a reading operation first. -/
theorem plan_qA (i : Nat) (hi : ops[i]? = some o) (hs : Region.noSelect ops = true) (hf : Region.free .any ops listed i = true) (hr : (Region.ready .any ops listed).contains i = true) (hk : quietKind o.op = true)
    (hw : Region.wanted o (yielded ops a.tmps) = true) (hQ : ∀ v c a w, Q (.panic c) (a.put o.dst v) w → Q (.panic c) a w) (hS : Keep S0 W w) (hz : i ≠ z) (hwz : (waits ops z i && closedB ops listed) = true)
    (h : ∀ K : Act → Prop, (∀ a', wpAnyG P ops Q (fun w' => ∃ x : Wd W S0, w' = x.1) z fuel (listed.setIfInBounds i true) a' w → K a') → o.quiet P a (fun w' => ∃ x : Wd W S0, w' = x.1) K) :
    wpAnyG P ops Q (fun w' => ∃ x : Wd W S0, w' = x.1) z (fuel + 1) listed a w := by
  obtain ⟨v, h1, h2⟩ := h _ (fun _ h => h)
  refine wpAnyG_first hi (Region.noSelect_spec hs) (hQ v) hz (Bool.and_eq_true _ _ ▸ hwz).1 fuel listed a w (closed_of (Bool.and_eq_true _ _ ▸ hwz).2) (Region.free_spec hi hf) (by simpa using hr) (Or.inl ⟨hw, fun w' hw' => ?_⟩) (in_class hS) h2
  have h3 := h1 w' hw'
  unfold Oper.quietAt at h3
  rcases plain_of_kind (P := P) a.eval o hk w' with ⟨u, w2, he⟩ | ⟨x, w2, he⟩
  · rw [he] at h3 ⊢
    obtain ⟨rfl, rfl⟩ := h3
    rfl
  · rw [he] at h3
    exact h3.elim
/-- One whose guard says no. -/
theorem plan_sA (i : Nat) (hi : ops[i]? = some o) (hs : Region.noSelect ops = true) (hf : Region.free .any ops listed i = true) (hr : (Region.ready .any ops listed).contains i = true)
    (hw : Region.wanted o (yielded ops a.tmps) = false) (hQ : ∀ v c a w, Q (.panic c) (a.put o.dst v) w → Q (.panic c) a w) (hS : Keep S0 W w) (hz : i ≠ z) (hwz : (waits ops z i && closedB ops listed) = true) (hput : a.put o.dst undef = a)
    (h : wpAnyG P ops Q (fun w' => ∃ x : Wd W S0, w' = x.1) z fuel (listed.setIfInBounds i true) a w) :
    wpAnyG P ops Q (fun w' => ∃ x : Wd W S0, w' = x.1) z (fuel + 1) listed a w :=
  wpAnyG_first hi (Region.noSelect_spec hs) (hQ undef) hz (Bool.and_eq_true _ _ ▸ hwz).1 fuel listed a w (closed_of (Bool.and_eq_true _ _ ▸ hwz).2) (Region.free_spec hi hf) (by simpa using hr) (Or.inr ⟨hw, rfl⟩) (in_class hS) (by rw [hput]; exact h)
theorem then_upon {K : Act → World → Prop} {K' : Act → World → Prop} (hK : ∀ a w, K' a w → K a w) (h : o.wp P a w K' (Exit.then K' Q)) : o.wp P a w K Q := by
  unfold Oper.wp at *
  generalize (execOp a.eval o).run P w = r at *
  cases r with
  | ok n w' =>
    cases n <;> simp only [Oper.upon] at h ⊢
    case value u => exact hK _ _ h
    case skip => exact hK _ _ h
    case defer d => exact hK _ _ h
    case enter f args =>
      refine Calls.mono h fun e w'' he => ?_
      cases e with
      | returned u => exact hK _ _ he
      | panicked c => exact he
      | outgrown => exact he
    case row row args => exact Rows.mono h fun u w'' he => hK _ _ he
  | halt x w' =>
    cases x <;> simp only [Oper.upon] at h ⊢
    case panic u => exact h
/-- The one operation that may come up: it may write, or call. -/
theorem plan_lA (i : Nat) (hi : ops[i]? = some o) (hr : Region.ready .any ops listed = [i])
    (h : ∀ K : Act → World → Prop, (∀ a' w', (i ≠ z → Keep S0 W w') → ((i ≠ z → Keep S0 W w') → wpAnyG P ops Q (fun w' => ∃ x : Wd W S0, w' = x.1) z fuel (listed.setIfInBounds i true) a' w') → K a' w') → wpList P ops (Exit.then K Q) [o] a w) :
    wpAnyG P ops Q (fun w' => ∃ x : Wd W S0, w' = x.1) z (fuel + 1) listed a w := by
  refine wpAnyG_all hr (by simp) fun j hj => ?_
  obtain rfl : j = i := by simpa using hj
  have h1 := h (fun a' w' => (j ≠ z → ∃ x : Wd W S0, w' = x.1) ∧ wpAnyG P ops Q (fun w' => ∃ x : Wd W S0, w' = x.1) z fuel (listed.setIfInBounds j true) a' w') (fun a' w' hk hh => ⟨fun hn => in_class (hk hn), hh hk⟩)
  unfold wpOp
  simp only [hi]
  unfold wpList at h1
  split
  · rename_i hw
    rw [if_pos hw] at h1
    rcases h1 with h1 | h1
    · exact .inl (then_upon (fun _ _ h => h) h1)
    · exact .inr ⟨h1.1, h1.2⟩
  · rename_i hw
    rw [if_neg hw] at h1
    exact h1
/-- Two that may come up, in either order. -/
theorem plan_bA (i j : Nat) {oi oj : Oper} (hi : ops[i]? = some oi) (hj : ops[j]? = some oj) (hr : Region.ready .any ops listed = [i, j])
    (h1 : ∀ K : Act → World → Prop, (∀ a' w', (i ≠ z → Keep S0 W w') → ((i ≠ z → Keep S0 W w') → wpAnyG P ops Q (fun w' => ∃ x : Wd W S0, w' = x.1) z fuel (listed.setIfInBounds i true) a' w') → K a' w') → wpList P ops (Exit.then K Q) [oi] a w)
    (h2 : ∀ K : Act → World → Prop, (∀ a' w', (j ≠ z → Keep S0 W w') → ((j ≠ z → Keep S0 W w') → wpAnyG P ops Q (fun w' => ∃ x : Wd W S0, w' = x.1) z fuel (listed.setIfInBounds j true) a' w') → K a' w') → wpList P ops (Exit.then K Q) [oj] a w) :
    wpAnyG P ops Q (fun w' => ∃ x : Wd W S0, w' = x.1) z (fuel + 1) listed a w := by
  refine wpAnyG_all hr (by simp) fun k hk => ?_
  have key : ∀ (m : Nat) (o : Oper), ops[m]? = some o → (∀ K : Act → World → Prop, (∀ a' w', (m ≠ z → Keep S0 W w') → ((m ≠ z → Keep S0 W w') → wpAnyG P ops Q (fun w' => ∃ x : Wd W S0, w' = x.1) z fuel (listed.setIfInBounds m true) a' w') → K a' w') → wpList P ops (Exit.then K Q) [o] a w) →
      wpOp P ops Q m (fun a' w' => (m ≠ z → ∃ x : Wd W S0, w' = x.1) ∧ wpAnyG P ops Q (fun w' => ∃ x : Wd W S0, w' = x.1) z fuel (listed.setIfInBounds m true) a' w') a w := by
    intro m o hm h
    have h1 := h (fun a' w' => (m ≠ z → ∃ x : Wd W S0, w' = x.1) ∧ wpAnyG P ops Q (fun w' => ∃ x : Wd W S0, w' = x.1) z fuel (listed.setIfInBounds m true) a' w') (fun a' w' hk hh => ⟨fun hn => in_class (hk hn), hh hk⟩)
    unfold wpOp
    simp only [hm]
    unfold wpList at h1
    split
    · rename_i hw
      rw [if_pos hw] at h1
      rcases h1 with h1 | h1
      · exact .inl (then_upon (fun _ _ h => h) h1)
      · exact .inr ⟨h1.1, h1.2⟩
    · rename_i hw
      rw [if_neg hw] at h1
      exact h1
  rcases (by simpa using hk : k = i ∨ k = j) with rfl | rfl
  · exact key _ _ hi h1
  · exact key _ _ hj h2
section
variable {l rest : List Oper}
theorem at_drop {i : Nat} (h : l.drop i = o :: rest) : l.toArray[i]? = some o := by
  have : l[i]? = some o := by
    have h2 : (l.drop i)[0]? = some o := by rw [h]; rfl
    simpa using h2
  simpa using this
theorem plan_q (i : Nat) (hi : l.drop i = o :: rest) (hs : Region.noSelect l.toArray = true) (hf : Region.free .any l.toArray listed i = true) (hr : (Region.ready .any l.toArray listed).contains i = true) (hk : quietKind o.op = true)
    (hw : Region.wanted o (yielded l.toArray a.tmps) = true) (hQ : ∀ v c a w, Q (.panic c) (a.put o.dst v) w → Q (.panic c) a w) (hS : Keep S0 W w) (hz : i ≠ z) (hwz : (waits l.toArray z i && closedB l.toArray listed) = true)
    (h : ∀ K : Act → Prop, (∀ a', wpAnyG P l.toArray Q (fun w' => ∃ x : Wd W S0, w' = x.1) z fuel (listed.setIfInBounds i true) a' w → K a') → o.quiet P a (fun w' => ∃ x : Wd W S0, w' = x.1) K) : wpAnyG P l.toArray Q (fun w' => ∃ x : Wd W S0, w' = x.1) z (fuel + 1) listed a w := plan_qA i (at_drop hi) hs hf hr hk hw hQ hS hz hwz h
theorem plan_s (i : Nat) (hi : l.drop i = o :: rest) (hs : Region.noSelect l.toArray = true) (hf : Region.free .any l.toArray listed i = true) (hr : (Region.ready .any l.toArray listed).contains i = true)
    (hw : Region.wanted o (yielded l.toArray a.tmps) = false) (hQ : ∀ v c a w, Q (.panic c) (a.put o.dst v) w → Q (.panic c) a w) (hS : Keep S0 W w) (hz : i ≠ z) (hwz : (waits l.toArray z i && closedB l.toArray listed) = true) (hput : a.put o.dst undef = a)
    (h : wpAnyG P l.toArray Q (fun w' => ∃ x : Wd W S0, w' = x.1) z fuel (listed.setIfInBounds i true) a w) : wpAnyG P l.toArray Q (fun w' => ∃ x : Wd W S0, w' = x.1) z (fuel + 1) listed a w := plan_sA i (at_drop hi) hs hf hr hw hQ hS hz hwz hput h
theorem plan_l (i : Nat) (hi : l.drop i = o :: rest) (hr : Region.ready .any l.toArray listed = [i])
    (h : ∀ K : Act → World → Prop, (∀ a' w', (i ≠ z → Keep S0 W w') → ((i ≠ z → Keep S0 W w') → wpAnyG P l.toArray Q (fun w' => ∃ x : Wd W S0, w' = x.1) z fuel (listed.setIfInBounds i true) a' w') → K a' w') → wpList P l.toArray (Exit.then K Q) [o] a w) : wpAnyG P l.toArray Q (fun w' => ∃ x : Wd W S0, w' = x.1) z (fuel + 1) listed a w := plan_lA i (at_drop hi) hr h
theorem plan_b (i j : Nat) {oi oj : Oper} {rest' : List Oper} (hi : l.drop i = oi :: rest) (hj : l.drop j = oj :: rest') (hr : Region.ready .any l.toArray listed = [i, j])
    (h1 : ∀ K : Act → World → Prop, (∀ a' w', (i ≠ z → Keep S0 W w') → ((i ≠ z → Keep S0 W w') → wpAnyG P l.toArray Q (fun w' => ∃ x : Wd W S0, w' = x.1) z fuel (listed.setIfInBounds i true) a' w') → K a' w') → wpList P l.toArray (Exit.then K Q) [oi] a w)
    (h2 : ∀ K : Act → World → Prop, (∀ a' w', (j ≠ z → Keep S0 W w') → ((j ≠ z → Keep S0 W w') → wpAnyG P l.toArray Q (fun w' => ∃ x : Wd W S0, w' = x.1) z fuel (listed.setIfInBounds j true) a' w') → K a' w') → wpList P l.toArray (Exit.then K Q) [oj] a w) : wpAnyG P l.toArray Q (fun w' => ∃ x : Wd W S0, w' = x.1) z (fuel + 1) listed a w := plan_bA i j (at_drop hi) (at_drop hj) hr h1 h2
end
theorem plan_e (hr : Region.ready .any ops listed = []) (h : Q .normal a w) : wpAnyG P ops Q (fun w' => ∃ x : Wd W S0, w' = x.1) z 0 listed a w := ⟨hr, h⟩
end
end Go.Proofs.Ytimmglnbjgbbjaa
namespace Go.Proofs.Ytimmglnbjgbbjaa
open Go.RowKit Go.Proofs.YtimmglnbjgbbjaaW.PrintWords
/-- A function that is entered when it is called. -/
def Enters (P : Program) (f : FuncId) : Prop := ∀ (args : Array Value) (w : World), (callFunc f args).run P w = .ok (.enter f args) w
theorem enters_of {P : Program} {f : FuncId} {fn : Func} (hf : P.funcs[f]? = some fn) (hname : (fn.name == "runtime.NumGoroutine") = false) (hb : fn.body.isSome = true) : Enters P f := fun args w => by
  have h1 : fn.name ≠ "runtime.NumGoroutine" := by simpa using hname
  obtain ⟨c, hc⟩ := Option.isSome_iff_exists.1 hb
  simp [callFunc, hf, h1, hc]
theorem goesD {P : Program} {ops : Array Oper} {Q : Exit → Act → World → Prop} {rest : List Oper} {oi : Oper} {a : Act} {w : World} (N : Option Tmp) (hd : oi.dst = N) (hg : oi.guard = none) {f : FuncId} {c : Operand} {as_ : Array Operand} {ts : Array TypeId} (args : Array Value)
    (hop : oi.op = .call { callee := .value c, args := as_, argTypes := ts }) (hc : a.eval c = .func (.func f) #[] #[]) (hargs : as_.map a.eval = args) (he : Enters P f)
    (h : Calls P f args w fun e w' => match e with
      | .returned v => wpList P ops Q rest (a.put N v) w'
      | .panicked chain => Q (.panic chain) a w'
      | .outgrown => LetsOut Q) : wpList P ops Q (oi :: rest) a w := by
  refine wpList_plain hg fun K hK => ?_
  have hrun : (execOp a.eval oi).run P w = .ok (.enter f args) w := by
    unfold execOp
    simp [hop, resolve, Deferred.ofValue, invoke, hc, hargs, he args w]
  unfold Oper.wp
  rw [hrun, Oper.upon_enter]
  refine h.mono fun e w'' hh => ?_
  subst hd
  cases e with
  | returned v => exact hK _ _ hh
  | panicked chain => exact hh
  | outgrown => exact hh
end Go.Proofs.Ytimmglnbjgbbjaa
