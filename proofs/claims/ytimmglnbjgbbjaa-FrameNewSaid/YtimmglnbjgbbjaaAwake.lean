/- What the example of chapter 12 says (haymowlaw12.awake). No conditions. -/
import Derived.Test.YtimmglnbjgbbjaaExec
import Derived.Test.YtimmglnbjgbbjaaNew
set_option linter.unusedSimpArgs false
set_option linter.unusedVariables false
namespace Go.Proofs.Ytimmglnbjgbbjaa
open Go.RowKit Go.Proofs.YtimmglnbjgbbjaaW.PrintWords
def awP : List Fn := [⟨0, [⟨1, 1, 0, 0, 7⟩, ⟨15, 1, 0, 0, 0⟩, ⟨17, 1, 0, 0, 0⟩]⟩]
def awF0 : Fr := ⟨0, 0, 0, 0, regs0 [], fun _ => 0⟩
def awF1 : Fr := ⟨0, 1, 1, 0, upd (regs0 []) 1 7, fun _ => 0⟩
def awF2 : Fr := ⟨0, 2, 2, 0, upd (regs0 []) 1 7, fun _ => 0⟩
def awF3 : Fr := ⟨0, 3, 3, 0, upd (regs0 []) 1 7, fun _ => 0⟩
theorem aw1 : execP awP 9 0 [] awF0 = (goesE, 0, awF1) := by kernel_rfl
theorem aw2 : execP awP 9 0 [] awF1 = (⟨2, 7, 0, 0, 0, 0, [], []⟩, 0, awF2) := by kernel_rfl
theorem aw3 : execP awP 9 0 [] awF2 = (⟨7, 0, 1, 0, 0, 0, [], []⟩, 0, awF3) := by kernel_rfl
theorem aw_prog {w : World} {n m : Nat} {ok : Nat → Prop} (hc : w.heap[n]? = some (.cells #[.int .i64 1, .int .i64 1, .int .i64 0, .int .i64 0, .int .i64 7, .int .i64 15, .int .i64 1, .int .i64 0, .int .i64 0, .int .i64 0, .int .i64 17, .int .i64 1, .int .i64 0, .int .i64 0, .int .i64 0] 24 (0, 0))) (hp : w.heap[m]? = some (.cells #[.int .i64 0, .slice (some ⟨n, 0, none⟩) 3 3] 34 (0, 0))) (h1 : ok n) (h2 : ok m) :
    Kd.F (kFn 34) w ok (some ⟨m, 0, none⟩) awP.length awP :=
  prog_F awP hp h2 (by decide) (fun j p hj => by
    match j, hj with
    | 0, hj =>
      obtain rfl := Option.some.inj hj
      exact ⟨some ⟨n, 0, none⟩, 3, rfl, rfl, by decide, Kd.F_mono (code_F _ hc (by decide) (fun j x hj i u hu => by
        match j, hj with
        | 0, hj => obtain rfl := Option.some.inj hj; match i, hu with
          | 0, hu => exact hu
          | 1, hu => exact hu
          | 2, hu => exact hu
          | 3, hu => exact hu
          | 4, hu => exact hu
          | i + 5, hu => simp [inCells] at hu
        | 1, hj => obtain rfl := Option.some.inj hj; match i, hu with
          | 0, hu => exact hu
          | 1, hu => exact hu
          | 2, hu => exact hu
          | 3, hu => exact hu
          | 4, hu => exact hu
          | i + 5, hu => simp [inCells] at hu
        | 2, hj => obtain rfl := Option.some.inj hj; match i, hu with
          | 0, hu => exact hu
          | 1, hu => exact hu
          | 2, hu => exact hu
          | 3, hu => exact hu
          | 4, hu => exact hu
          | i + 5, hu => simp [inCells] at hu
        | j + 3, hj => simp at hj)) (fun k hk => hk ▸ h1)⟩
    | j + 1, hj => simp [awP] at hj)
structure AwSt (w : World) (b : Nat) (QA : Option Addr) (qc : Nat) (f : Fr) (wx : World) : Prop where
  code : wx.heap[w.heap.size]? = some (.cells #[.int .i64 1, .int .i64 1, .int .i64 0, .int .i64 0, .int .i64 7, .int .i64 15, .int .i64 1, .int .i64 0, .int .i64 0, .int .i64 0, .int .i64 17, .int .i64 1, .int .i64 0, .int .i64 0, .int .i64 0] 24 (0, 0))
  prog : wx.heap[w.heap.size + 1]? = some (.cells #[.int .i64 0, .slice (some ⟨w.heap.size, 0, none⟩) 3 3] 34 (0, 0))
  lim : wx.heap[w.heap.size + 2]? = some (.cells #[.int .i64 9, .int .i64 0] 37 (0, 0))
  fr : wx.heap[b]? = some (.cells (FrB (.slice QA 0 qc) f) 80 (0, 0))
  at_ : w.heap.size + 2 < b
  bel : Below w.heap.size w wx
theorem AwSt.below {w wx wy : World} {b : Nat} {QA : Option Addr} {qc : Nat} {f : Fr} (h : AwSt w b QA qc f wx) (hb : Below wx.heap.size wx wy) : AwSt w b QA qc f wy := ⟨blk_below h.code hb, blk_below h.prog hb, blk_below h.lim hb, blk_below h.fr hb, h.at_, below_thenB h.bel hb⟩
theorem AwSt.step {w wx wy : World} {b : Nat} {QA : Option Addr} {qc : Nat} {f f' : Fr} (h : AwSt w b QA qc f wx) (hk : Keep (fun k => k = b) wx wy) (hf : wy.heap[b]? = some (.cells (FrB (.slice QA 0 qc) f') 80 (0, 0))) : AwSt w b QA qc f' wy :=
  have ha := h.at_
  ⟨hk.heap h.code (by omega), hk.heap h.prog (by omega), hk.heap h.lim (by omega), hf, ha, (Keep.trans (Keep.mono (Keep.of_below (fun _ => False) h.bel) (fun _ h => h.elim)) hk).belowB (Nat.le_refl _) (fun k hk => by omega)⟩
theorem aw_exec {w wx : World} {b : Nat} {QA : Option Addr} {qc : Nat} {f : Fr} (h : AwSt w b QA qc f wx) :
    Calls Try.prog 24 #[.slice (some ⟨w.heap.size + 1, 0, none⟩) 1 1, .agg #[.int .i64 9, .int .i64 0], .pointer (some ⟨b, 0, none⟩)] wx (ExecOut (execP awP 9 0 [] f).1 (execP awP 9 0 [] f).2.1 (execP awP 9 0 [] f).2.2 b (.slice QA 0 qc) wx) :=
  have ha := h.at_
  exec_any (some ⟨w.heap.size + 1, 0, none⟩) 1 awP 9 0 wx b (aw_prog h.code h.prog (by omega) (by omega)) QA qc [] f h.fr (fun W' _ => ⟨rfl, by simp, fun hn => by simp at hn⟩) (by simp)
set_option maxRecDepth 20000 in
set_option maxHeartbeats 1600000 in
theorem awake12 (w : World) : Calls Try.prog 29 #[] w fun e w' => e = .returned (.bool true) ∧ Below w.heap.size w w' := by
  go_enter Try.func29, Try.ntmps29
  go_wp2_with fail
  refine (new_any 0 none 0 [] none 0 [] (fun _ => 0) _ (Kd.C_nil _ _) (by simp) (Kd.C_nil _ _)).mono ?_
  rintro e w1 ⟨b, QA, qc, rfl, h1, h2, -, h4⟩
  have S1 := Aside0.mk (show AwSt w b QA qc awF0 w1 from ⟨blk_below (by (repeat (first | (with_reducible assumption) | (with_reducible refine heap_drew1 ?_) | (with_reducible refine heap_drewN1 ?_) | exact heap_at_alloc (by first | rfl | (simp; done) | (simp; omega)) | (with_reducible refine heap_lt_alloc ?_) | (refine heap_near ?_ (by first | rfl | (simp; done))) | (refine heap_far ?_ (by first | (simp; done) | (simp; omega))) | exact blk_below (by assumption) (by assumption)))) h4, blk_below (by (repeat (first | (with_reducible assumption) | (with_reducible refine heap_drew1 ?_) | (with_reducible refine heap_drewN1 ?_) | exact heap_at_alloc (by first | rfl | (simp; done) | (simp; omega)) | (with_reducible refine heap_lt_alloc ?_) | (refine heap_near ?_ (by first | rfl | (simp; done))) | (refine heap_far ?_ (by first | (simp; done) | (simp; omega))) | exact blk_below (by assumption) (by assumption)))) h4, blk_below (by (repeat (first | (with_reducible assumption) | (with_reducible refine heap_drew1 ?_) | (with_reducible refine heap_drewN1 ?_) | exact heap_at_alloc (by first | rfl | (simp; done) | (simp; omega)) | (with_reducible refine heap_lt_alloc ?_) | (refine heap_near ?_ (by first | rfl | (simp; done))) | (refine heap_far ?_ (by first | (simp; done) | (simp; omega))) | exact blk_below (by assumption) (by assumption)))) h4, h2, (by simp at h1; omega), by (repeat (first | exact Below.refl _ _ | (with_reducible assumption) | refine below_thenB ?_ (by assumption) | refine below_alloc ?_ _ | refine below_drew ?_ | refine pw_below_drewN ?_ _ | refine Below.setCell ?_ (by first | (simp; done) | omega | (simp; omega)) _))⟩)
  have s1 := blk_lt S1.out.fr
  have cL := fun j => blk_cell S1.out.lim j
  have l1 := blk_lt S1.out.lim
  clear h1 h2 h4
  go_wp2_with fail
  refine (aw_exec S1.out).mono ?_
  rw [aw1]
  rintro e w2 ⟨av, qv, rfl, hA, hQ, hF, hK⟩
  obtain ⟨Aa, ca, rfl⟩ := Kd.R_slice hA
  obtain ⟨Av, cv, rfl⟩ := Kd.R_slice hQ
  have S2 := Aside0.mk (S1.out.step hK hF)
  clear cL l1 s1 hA hQ hF hK
  have cL := fun j => blk_cell S2.out.lim j
  have l1 := blk_lt S2.out.lim
  have s1 := blk_lt S2.out.fr
  simp only [effV, goesE]
  go_wp2_with fail
  have S3 := Aside0.mk (S2.out.below (wy := w2.alloc (.cells #[.int .i64 1, .int .i64 0, .int .i64 0, .int .i64 0, .int .i64 0, .int .i64 0, .slice Aa 0 ca, .slice Av 0 cv] 60)) (by (repeat (first | exact Below.refl _ _ | (with_reducible assumption) | refine below_thenB ?_ (by assumption) | refine below_alloc ?_ _ | refine below_drew ?_ | refine pw_below_drewN ?_ _ | refine Below.setCell ?_ (by first | (simp; done) | omega | (simp; omega)) _))))
  have E3 := Aside0.mk (show (w2.alloc (.cells #[.int .i64 1, .int .i64 0, .int .i64 0, .int .i64 0, .int .i64 0, .int .i64 0, .slice Aa 0 ca, .slice Av 0 cv] 60)).heap[w2.heap.size]? = _ from heap_alloc_new _ _)
  clear cL l1
  refine (aw_exec S3.out).mono ?_
  rw [aw2]
  rintro e w4 ⟨av4, qv4, rfl, hA, hQ, hF, hK⟩
  obtain ⟨Aa4, ca4, rfl⟩ := Kd.R_slice hA
  obtain ⟨Av4, cv4, rfl⟩ := Kd.R_slice hQ
  have S4 := Aside0.mk (S3.out.step hK hF)
  have E4 := Aside0.mk (hK.heap E3.out (by omega))
  clear hA hQ hF hK S3 E3
  have n6 : w2.heap.size ≠ b := by omega
  generalize w2.heap.size = b1 at *
  have cL := fun j => blk_cell S4.out.lim j
  have l1 := blk_lt S4.out.lim
  have q1 := blk_lt E4.out
  simp only [effV]
  go_wp2_with fail
  have S5 := Aside0.mk (S4.out.below (wy := w4.alloc (.cells #[.int .i64 2, .int .i64 7, .int .i64 0, .int .i64 0, .int .i64 0, .int .i64 0, .slice Aa4 0 ca4, .slice Av4 0 cv4] 60)) (by (repeat (first | exact Below.refl _ _ | (with_reducible assumption) | refine below_thenB ?_ (by assumption) | refine below_alloc ?_ _ | refine below_drew ?_ | refine pw_below_drewN ?_ _ | refine Below.setCell ?_ (by first | (simp; done) | omega | (simp; omega)) _))))
  have E5 := Aside0.mk (heap_lt_alloc (o := (.cells #[.int .i64 2, .int .i64 7, .int .i64 0, .int .i64 0, .int .i64 0, .int .i64 0, .slice Aa4 0 ca4, .slice Av4 0 cv4] 60)) E4.out)
  have D5 := Aside0.mk (show (w4.alloc (.cells #[.int .i64 2, .int .i64 7, .int .i64 0, .int .i64 0, .int .i64 0, .int .i64 0, .slice Aa4 0 ca4, .slice Av4 0 cv4] 60)).heap[w4.heap.size]? = _ from heap_alloc_new _ _)
  have n5 : w4.heap.size ≠ b := by have := blk_lt S4.out.fr; omega
  clear cL l1 q1
  refine (aw_exec S5.out).mono ?_
  rw [aw3]
  rintro e w6 ⟨av6, qv6, rfl, hA, hQ, hF, hK⟩
  obtain ⟨Aa6, ca6, rfl⟩ := Kd.R_slice hA
  obtain ⟨Av6, cv6, rfl⟩ := Kd.R_slice hQ
  have S6 := S5.out.step hK hF
  have E6 := hK.heap E5.out n6
  have D6 := hK.heap D5.out n5
  clear hA hQ hF hK S5 E5 D5
  generalize w4.heap.size = b2 at *
  have c1 := fun j => blk_cell E6 j
  have c2 := fun j => blk_cell D6 j
  have c3 : w6.cell? ⟨b, 2, none⟩ = some (.int .i64 3) := blk_cell S6.fr 2
  have q1 := blk_lt E6
  have q2 := blk_lt D6
  have q3 := blk_lt S6.fr
  have hb := S6.bel
  clear S6 E6 D6 S4 S2 S1 E4
  simp only [effV]
  go_wp2_with fail
  go_ret
  exact ⟨rfl, by (repeat (first | exact Below.refl _ _ | (with_reducible assumption) | refine below_thenB ?_ (by assumption) | refine below_alloc ?_ _ | refine below_drew ?_ | refine pw_below_drewN ?_ _ | refine Below.setCell ?_ (by first | (simp; done) | omega | (simp; omega)) _))⟩
end Go.Proofs.Ytimmglnbjgbbjaa
