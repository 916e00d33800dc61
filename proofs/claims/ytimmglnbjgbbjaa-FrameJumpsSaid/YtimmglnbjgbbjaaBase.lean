/- What all texts of this seat's claims share: programs as plain data, how they lie in memory, and the relation 'all blocks but those of S are as they were'. No conditions. -/
import Derived.Test.YtimmglnbjgbbjaaProg
import Derived.Test.YtimmglnbjgbbjaaWMore
import Derived.Test.YtimmglnbjgbbjaaWKept
import Derived.Test.YtimmglnbjgbbjaaWShare
import Derived.WalkKit
import Derived.Deep.QuietTactic
import Derived.BigQuiet
import Derived.StillTailTactics
import Derived.Lib.Hide
import Derived.Handy
import Derived.Deep.DeepCutAuto
import Derived.Deep.RegionHeld3
namespace Go.Proofs.Ytimmglnbjgbbjaa
open Go.RowKit Go.Proofs.YtimmglnbjgbbjaaW.PrintWords
/-! ### Programs -/
structure In where
  op : Int
  a : Int
  b : Int
  c : Int
  k : Int
structure Fn where
  ar : Int
  code : List In
def zIn : In := ⟨0, 0, 0, 0, 0⟩
def zFn : Fn := ⟨0, []⟩
def inV (x : In) : Value := .agg #[.int .i64 x.op, .int .i64 x.a, .int .i64 x.b, .int .i64 x.c, .int .i64 x.k]
def kIn : Kd In := Kd.iso (Kd.pair (Kd.int .i64) (Kd.pair (Kd.int .i64) (Kd.pair (Kd.int .i64) (Kd.pair (Kd.int .i64) (Kd.int .i64))))) (fun x : In => (x.op, x.a, x.b, x.c, x.k))
def kFn (e : Nat) : Kd Fn := Kd.iso (Kd.pair (Kd.int .i64) (Kd.slice e kIn)) (fun x : Fn => (x.ar, x.code))
theorem kIn_open {w : World} {x : In} {cs : List Value} (h : kIn.K w x cs) : cs = [.int .i64 x.op, .int .i64 x.a, .int .i64 x.b, .int .i64 x.c, .int .i64 x.k] := by
  obtain ⟨_, _, rfl, rfl, ⟨_, _, rfl, rfl, ⟨_, _, rfl, rfl, ⟨_, _, rfl, rfl, rfl⟩⟩⟩⟩ := h
  exact rfl
theorem kFn_open {e : Nat} {w : World} {x : Fn} {cs : List Value} (h : (kFn e).K w x cs) : ∃ A1 c1, cs = [.int .i64 x.ar, .slice A1 x.code.length c1] ∧ x.code.length ≤ c1 ∧ kIn.C w A1 x.code.length x.code := by
  obtain ⟨_, _, rfl, rfl, ⟨A1, c1, rfl, l1, g1⟩⟩ := h
  exact ⟨A1, c1, rfl, l1, g1⟩
/-- An instruction of a row, by its place. -/
theorem at_in {w : World} {A : Option Addr} {n : Nat} {xs : List In} (h : Kd.C kIn w A n xs) (i : Nat) (x : In) (hx : xs[i]? = some x) :
    ∃ ad, A = some ad ∧ w.cell? (ad.add (i * 5)) = some (.int .i64 x.op) ∧ w.cell? ⟨(ad.add (i * 5)).block, (ad.add (i * 5)).off + 1, none⟩ = some (.int .i64 x.a) ∧ w.cell? ⟨(ad.add (i * 5)).block, (ad.add (i * 5)).off + 2, none⟩ = some (.int .i64 x.b) ∧
      w.cell? ⟨(ad.add (i * 5)).block, (ad.add (i * 5)).off + 3, none⟩ = some (.int .i64 x.c) ∧ w.cell? ⟨(ad.add (i * 5)).block, (ad.add (i * 5)).off + 4, none⟩ = some (.int .i64 x.k) ∧ (ad.add (i * 5)).block < w.heap.size := by
  have hl : i < xs.length := (List.getElem?_eq_some_iff.1 hx).1
  have hln : xs.length = n := h.1
  obtain ⟨ad, c, e, _, hK, hc0⟩ := Kd.C_get h zIn (i : Int) (by omega) (by omega)
  rw [show ((i : Int)).toNat = i from rfl] at hK hc0
  have hx' : xs.getD i zIn = x := by rw [List.getD_eq_getElem?_getD, hx]; rfl
  rw [hx'] at hK
  have hc : ∀ j u, c[j]? = some u → w.cell? (ad.add (i * 5 + j)) = some u := hc0
  obtain rfl := kIn_open hK
  exact ⟨ad, e, hc 0 _ rfl, by rw [← add_field _ _ 1 (by omega)]; exact hc 1 _ rfl, by rw [← add_field _ _ 2 (by omega)]; exact hc 2 _ rfl, by rw [← add_field _ _ 3 (by omega)]; exact hc 3 _ rfl, by rw [← add_field _ _ 4 (by omega)]; exact hc 4 _ rfl, World.block_lt_of_cell? w (ad.add (i * 5)) (hc 0 _ rfl)⟩
/-- A function of a program, by its place. -/
theorem at_fn {e : Nat} {w : World} {A : Option Addr} {n : Nat} {xs : List Fn} (h : Kd.C (kFn e) w A n xs) (i : Nat) (x : Fn) (hx : xs[i]? = some x) :
    ∃ ad A1 c1, A = some ad ∧ w.cell? (ad.add (i * 2)) = some (.int .i64 x.ar) ∧ w.cell? ⟨(ad.add (i * 2)).block, (ad.add (i * 2)).off + 1, none⟩ = some (.slice A1 x.code.length c1) ∧ x.code.length ≤ c1 ∧ kIn.C w A1 x.code.length x.code ∧ (ad.add (i * 2)).block < w.heap.size := by
  have hl : i < xs.length := (List.getElem?_eq_some_iff.1 hx).1
  have hln : xs.length = n := h.1
  obtain ⟨ad, c, e, _, hK, hc0⟩ := Kd.C_get h zFn (i : Int) (by omega) (by omega)
  rw [show ((i : Int)).toNat = i from rfl] at hK hc0
  have hx' : xs.getD i zFn = x := by rw [List.getD_eq_getElem?_getD, hx]; rfl
  rw [hx'] at hK
  have hc : ∀ j u, c[j]? = some u → w.cell? (ad.add (i * 2 + j)) = some u := hc0
  obtain ⟨A1, c1, rfl, l1, g1⟩ := kFn_open hK
  exact ⟨ad, A1, c1, e, hc 0 _ rfl, by rw [← add_field _ _ 1 (by omega)]; exact hc 1 _ rfl, l1, g1, World.block_lt_of_cell? w (ad.add (i * 2)) (hc 0 _ rfl)⟩
/-! ### Worlds -/
/-- All blocks of w but those of S stand in w' as they did. -/
structure Keep (S : Nat → Prop) (w w' : World) : Prop where
  os : w'.os = w.os
  tape : w'.tape = w.tape
  output : w'.output = w.output
  size : w.heap.size ≤ w'.heap.size
  blk : ∀ k, k < w.heap.size → ¬ S k → w'.heap[k]? = w.heap[k]?
section
variable {S S2 S' : Nat → Prop} {w W W2 : World}
theorem Keep.refl (S : Nat → Prop) (w : World) : Keep S w w := ⟨rfl, rfl, rfl, Nat.le_refl _, fun _ _ _ => rfl⟩
theorem Keep.then_ (h : Keep S w W) (k : Keep S2 W W2) (hs : ∀ k, S2 k → S k ∨ w.heap.size ≤ k) : Keep S w W2 :=
  ⟨k.os.trans h.os, k.tape.trans h.tape, k.output.trans h.output, Nat.le_trans h.size k.size, fun i hi hn =>
    (k.blk i (Nat.lt_of_lt_of_le hi h.size) (fun h2 => (hs i h2).elim hn (fun h3 => by omega))).trans (h.blk i hi hn)⟩
theorem Keep.trans (h : Keep S w W) (k : Keep S W W2) : Keep S w W2 := h.then_ k (fun _ hk => .inl hk)
theorem Keep.mono (h : Keep S w W) (hs : ∀ k, S k → S' k) : Keep S' w W := ⟨h.os, h.tape, h.output, h.size, fun i hi hn => h.blk i hi (fun hk => hn (hs i hk))⟩
theorem Keep.of_below (S : Nat → Prop) (h : Below w.heap.size w W) : Keep S w W := ⟨h.os, h.tape, h.output, h.size, fun i hi _ => h.block i hi⟩
theorem Keep.below (h : Keep (fun _ => False) w W) : Below w.heap.size w W := ⟨h.os, h.tape, h.output, h.size, fun i hi => h.blk i hi id⟩
theorem Keep.belowB {B : Nat} (h : Keep S w W) (hB : B ≤ w.heap.size) (hS : ∀ k, S k → B ≤ k) : Below B w W := ⟨h.os, h.tape, h.output, h.size, fun i hi => h.blk i (by omega) (fun hk => by have := hS i hk; omega)⟩
theorem Keep.alloc (h : Keep S w W) (o : Obj) : Keep S w (W.alloc o) := h.then_ (Keep.of_below (fun _ => False) (below_alloc (Below.refl _ _) o)) (fun _ hk => hk.elim)
theorem Keep.allocs (h : Keep S w W) (hs : W.heap.size = w.heap.size) (o : Obj) : Keep S (w.alloc o) (W.alloc o) :=
  ⟨h.os, h.tape, h.output, by simp [hs], fun k hk hn => by
    rcases Nat.lt_or_ge k w.heap.size with hl | hl
    · rw [heap_alloc_old w o hl, heap_alloc_old W o (by omega)]; exact h.blk k hl hn
    · have e : k = w.heap.size := by have : (w.alloc o).heap.size = w.heap.size + 1 := by simp
                                     omega
      rw [e, heap_alloc_new, ← hs, heap_alloc_new]⟩
theorem Keep.drew (h : Keep S w W) : Keep S w W.drew := ⟨h.os, h.tape, h.output, h.size, h.blk⟩
theorem Keep.drewN (h : Keep S w W) (m : Nat) : Keep S w (W.drewN m) := ⟨h.os, h.tape, h.output, h.size, h.blk⟩
theorem Keep.left (h : Keep S w W) : Keep S w.drew W := ⟨h.os, h.tape, h.output, h.size, h.blk⟩
theorem Keep.leftN {m : Nat} (h : Keep S w W) : Keep S (w.drewN m) W := ⟨h.os, h.tape, h.output, h.size, h.blk⟩
theorem Keep.setCell (h : Keep S w W) {p : Addr} (hp : S p.block ∨ w.heap.size ≤ p.block) (u : Value) : Keep S w (W.setCell p u) :=
  h.then_ (S2 := fun k => k = p.block) ⟨rfl, rfl, rfl, by simp [World.setCell], fun i _ hn => Below.heap_setCell W p u i hn⟩ (fun k hk => by rw [hk]; exact hp)
theorem Keep.thenBelow (h : Keep S w W) (k : Below W.heap.size W W2) : Keep S w W2 := h.then_ (Keep.of_below (fun _ => False) k) (fun _ hk => hk.elim)
theorem Keep.grown {row : Option Nat} (h : Keep S w W) (hg : W.grownBy W2 row) (hr : ∀ k, row = some k → S k ∨ w.heap.size ≤ k) : Keep S w W2 :=
  h.then_ (S2 := fun k => row = some k) ⟨hg.os, hg.tape, hg.output, hg.size, fun i hi hn => hg.block i hi (fun he => hn he.symm)⟩ hr
theorem Keep.heap {k : Nat} {o : Obj} (h : Keep S w W) (hb : w.heap[k]? = some o) (hn : ¬ S k) : W.heap[k]? = some o := (h.blk k (blk_lt hb) hn).trans hb
theorem Keep.cell {a : Addr} {v : Value} (h : Keep S w W) (hc : w.cell? a = some v) (hn : ¬ S a.block) : W.cell? a = some v := by
  have := h.blk a.block (World.block_lt_of_cell? w a hc) hn
  simpa [World.cell?, this] using hc
theorem Keep.F {α : Type} {d : Kd α} {ok : Nat → Prop} {A : Option Addr} {n : Nat} {xs : List α} (h : Keep S w W) (hF : Kd.F d w ok A n xs) (hn : ∀ k, ok k → ¬ S k) : Kd.F d W ok A n xs := Kd.F_step hF (fun k hk hlt => h.blk k hlt (hn k hk))
end
theorem below_thenB {w W W2 : World} (h : Below w.heap.size w W) (k : Below W.heap.size W W2) : Below w.heap.size w W2 := below_then h h.size k
/-- Behind a call that leaves what was there: cells and marks as they were. -/
theorem bcell {W w1 : World} (hb : Below W.heap.size W w1) : (∀ b o, b < W.heap.size → w1.cell? ⟨b, o, none⟩ = W.cell? ⟨b, o, none⟩) ∧ (∀ b o, b < W.heap.size → w1.frozen? ⟨b, o, none⟩ = W.frozen? ⟨b, o, none⟩) :=
  ⟨fun b o h => hb.cell (p := ⟨b, o, none⟩) h, fun b o h => hb.frozen (p := ⟨b, o, none⟩) h⟩
/-- Blocks behind the world's moves. -/
theorem heap_lt_alloc {w : World} {k : Nat} {x o : Obj} (h : w.heap[k]? = some x) : (w.alloc o).heap[k]? = some x := (heap_alloc_old w o (blk_lt h)).trans h
theorem heap_at_alloc {w : World} {k : Nat} {o : Obj} (h : k = w.heap.size) : (w.alloc o).heap[k]? = some o := by subst h; exact heap_alloc_new w o
theorem heap_far {w : World} {k : Nat} {x : Obj} {p : Addr} {u : Value} (h : w.heap[k]? = some x) (hn : k ≠ p.block) : (w.setCell p u).heap[k]? = some x := (heap_setCell_other w p k u hn).trans h
theorem heap_near {w : World} {k i : Nat} {cs cs' : Array Value} {t : TypeId} {u : Value} (h : w.heap[k]? = some (.cells cs t (0, 0))) (he : cs.setIfInBounds i u = cs') : (w.setCell ⟨k, i, none⟩ u).heap[k]? = some (.cells cs' t (0, 0)) := by
  rw [← he]; exact heap_setCell_same w k i cs t u h
theorem blk_below {w w1 : World} {k : Nat} {o : Obj} (h : w.heap[k]? = some o) (hb : Below w.heap.size w w1) : w1.heap[k]? = some o := (hb.block k (blk_lt h)).trans h
theorem heap_drew1 {w : World} {k : Nat} {x : Option Obj} (h : w.heap[k]? = x) : w.drew.heap[k]? = x := h
theorem heap_drewN1 {w : World} {k m : Nat} {x : Option Obj} (h : w.heap[k]? = x) : (w.drewN m).heap[k]? = x := h
/-- A panic of the text's own. -/
@[go_sem] theorem run_panic_iface {P : Program} (t : TypeId) (v : Value) (w : World) : (Instr.panic (.iface t v)).run P w = .halt (.panic (.iface t v)) w := rfl
end Go.Proofs.Ytimmglnbjgbbjaa
