/- Texts of this session joined by a small program: plain Lean functions with the answers of Go functions of this seat, proofs that the machine's calls come to them, and plain laws over them that the claim InvoiceTotal uses. -/
import Derived.Below
import Derived.Deep.Draws
import Derived.Deep.AppendLies
import Derived.Maps.AppendAt
import Derived.OwnWalk
import Derived.Laws.BytesArg
import Derived.Laws.MakeOwn
import Derived.Laws.OwnMore
import Derived.Deep.OwnRows
import Derived.Tactics
import Derived.Lib.ConvBytes
import Derived.Laws.Slices
import Derived.WalkKit
import Derived.KernelRfl
import Derived.RowKit3
import Derived.Deep.LoopGhost
import Derived.Deep.QuietTactic
import Derived.BigQuiet
import Derived.WideLaws
import Derived.Deep.DeepCutAuto
import Derived.Deep.CutBlock
import Derived.Deep.RegionHeld3
import Derived.Laws.Rows
import Derived.Lib.AppendStr
import Derived.ArgAppend
import Derived.Laws.IdiomCopy
import Derived.RowKit
import Derived.OrdersHeld
import Derived.Laws.BitsLemmas
import Derived.Laws.StructEq
import Derived.Test.YteoieencagcgdaaProg
import Derived.RegionTactic
import Derived.Maps.Own
import Derived.Maps.OwnOps
import Derived.Maps.OwnSet
import Derived.Laws.Externs
import Derived.WalkLawsBesides
import Derived.Deep.RegionLaw
import Derived.IntWalk
import Derived.Laws.Bits64
import Derived.Sort.Walk0
import Derived.SizedLaws
import Derived.ChangeSlices
import Derived.Test.YteoieencagcgdaaMInvoiceTotal2
section
namespace Go.Proofs.Yteoieencagcgdaa.PX
open Go.RowKit Go.Proofs.YteoieencagcgdaaW.PrintWords Go.Proofs.YteoieencagcgdaaW.PrintLast Go.Proofs.YteoieencagcgdaaW.PrintMore
attribute [local go_sem] max2_int min2_int max_two min_two max_three min_three max_four min_four
set_option linter.unusedVariables false
set_option linter.unusedSimpArgs false

structure SortW (w0 : World) (g n : Nat) (A : Nat → Nat) (W : World) : Prop where
  row : ∃ cur : Array Value, cur.size = n ∧ W.heap[g]? = some (.cells cur 3 (0, 0)) ∧ ∀ i, i < n → cur[i]? = some (.int .i64 (A i))
  keep : KeepBut w0 W g none
  os : W.os = w0.os
  tape : W.tape = w0.tape
  output : W.output = w0.output
def swp (A : Nat → Nat) (i j : Nat) : Nat → Nat := fun k => if k = i then A j else if k = j then A i else A k
theorem SortW.cell {w0 : World} {g n : Nat} {A : Nat → Nat} {W : World} (h : SortW w0 g n A W) (i : Nat) (hi : i < n) : W.cell? ⟨g, i, none⟩ = some (.int .i64 (A i)) := by
  obtain ⟨cur, hs, hb, hc⟩ := h.row
  exact (blk_cell hb i).trans (hc i hi)
theorem SortW.free {w0 : World} {g n : Nat} {A : Nat → Nat} {W : World} (h : SortW w0 g n A W) (i : Nat) : W.frozen? ⟨g, i, none⟩ = false := by
  obtain ⟨cur, hs, hb, hc⟩ := h.row
  exact blk_frozen hb i
theorem SortW.drewN {w0 : World} {g n : Nat} {A : Nat → Nat} {W : World} (h : SortW w0 g n A W) (m : Nat) : SortW w0 g n A (W.drewN m) := ⟨h.row, keep_drewN h.keep m, h.os, h.tape, h.output⟩
theorem SortW.below {w0 : World} {g n : Nat} {A : Nat → Nat} {W W1 : World} (h : SortW w0 g n A W) (hb : Below W.heap.size W W1) : SortW w0 g n A W1 := by
  obtain ⟨cur, hs, hc, hr⟩ := h.row
  exact ⟨⟨cur, hs, blk_below hc hb, hr⟩, h.keep.trans (KeepBut.of_below hb g none) (.inl rfl), hb.os.trans h.os, hb.tape.trans h.tape, hb.output.trans h.output⟩
theorem SortW.other {w0 : World} {g n : Nat} {A : Nat → Nat} {W : World} (h : SortW w0 g n A W) {a : Addr} {v : Value} (hc : w0.cell? a = some v) (hne : a.block ≠ g) : W.cell? a = some v := keep_cell h.keep hc hne
theorem SortW.set2 {w0 : World} {g n : Nat} {A : Nat → Nat} {W : World} (h : SortW w0 g n A W) (i j : Nat) (hi : i < n) (hj : j < n) : SortW w0 g n (swp A i j) ((W.setCell ⟨g, i, none⟩ (.int .i64 (A j))).setCell ⟨g, j, none⟩ (.int .i64 (A i))) := by
  obtain ⟨cur, hs, hb, hc⟩ := h.row
  refine ⟨⟨_, ?_, blk_set (blk_set hb i _) j _, ?_⟩, (h.keep.set_ i _).set_ j _, h.os, h.tape, h.output⟩
  · simp [hs]
  · intro k hk
    unfold swp
    by_cases e1 : j = k
    · subst e1
      rw [Array.getElem?_setIfInBounds_self_of_lt (by simp [hs]; omega)]
      by_cases e2 : j = i
      · rw [if_pos e2, e2]
      · rw [if_neg e2, if_pos rfl]
    · rw [Array.getElem?_setIfInBounds_ne e1]
      by_cases e2 : i = k
      · subst e2
        rw [Array.getElem?_setIfInBounds_self_of_lt (by omega), if_pos rfl]
      · rw [Array.getElem?_setIfInBounds_ne e2, hc k hk, if_neg (fun h => e2 h.symm), if_neg (fun h => e1 h.symm)]
structure RestW (w0 : World) (g n B h : Nat) (R : Nat → Int) : Prop where
  box : w0.cell? ⟨B, 0, none⟩ = some (.slice (some ⟨h, 0, none⟩) n n)
  rest : ∀ k, k < n → w0.cell? ⟨h, k, none⟩ = some (.int .u64 (R k))
  neB : B ≠ g
  neh : h ≠ g
  lt : n < 4611686018427387904
def rkV (g n B : Nat) : Value := .agg #[.slice (some ⟨g, 0, none⟩) n n, .func (.func 44) #[] #[.pointer (some ⟨B, 0, none⟩)]]
set_option maxHeartbeats 4000000 in
set_option maxRecDepth 100000 in
theorem share1_calls {w0 : World} {g n B h : Nat} {R : Nat → Int} {A : Nat → Nat} {W : World} (hR : RestW w0 g n B h R) (hS : SortW w0 g n A W) (a b : Nat) (ha : a < n) (hb : b < n) :
    Calls Try.prog 44 #[.int .i64 a, .int .i64 b, .pointer (some ⟨B, 0, none⟩)] W fun e w' => e = .returned (.bool (decide (R b < R a))) ∧ ∃ q, w' = W.drewN q := by
  have hx := hS.other hR.box hR.neB
  have ca := hS.other (hR.rest a ha) hR.neh
  have cb := hS.other (hR.rest b hb) hR.neh
  have hlt := hR.lt
  have HS := Aside0.mk hS
  clear hS
  go_enter Try.func44, Try.ntmps44
  go_wp2
  go_quiet (fail)
  go_wp2
  go_ret
  exact ⟨rfl, nq, rfl⟩
set_option maxHeartbeats 4000000 in
set_option maxRecDepth 100000 in
theorem swap_calls {w0 : World} {g n B : Nat} {A : Nat → Nat} {W : World} (hlt : n < 4611686018427387904) (hS : SortW w0 g n A W) (i j : Nat) (hi : i < n) (hj : j < n) :
    Calls Try.prog 92 #[rkV g n B, .int .i64 i, .int .i64 j] W fun e w' => e = .returned (.tuple #[]) ∧ SortW w0 g n (swp A i j) w' := by
  unfold rkV
  have hS1 := hS.below (below_alloc (Below.refl _ _) (.cells #[.slice (some ⟨g, 0, none⟩) n n, .func (.func 44) #[] #[.pointer (some ⟨B, 0, none⟩)]] 79 (0, 0)))
  have bx := blk_cell (blk_new W (.cells #[.slice (some ⟨g, 0, none⟩) n n, .func (.func 44) #[] #[.pointer (some ⟨B, 0, none⟩)]] 79 (0, 0))) 0
  rw [show (#[.slice (some ⟨g, 0, none⟩) n n, .func (.func 44) #[] #[.pointer (some ⟨B, 0, none⟩)]] : Array Value)[0]? = some (.slice (some ⟨g, 0, none⟩) n n) from rfl] at bx
  have hgW : W.heap.size ≠ g := by
    obtain ⟨cur, _, hb, _⟩ := hS.row
    have := blk_lt hb
    omega
  have bx2 := blk_cell (blk_far (blk_new W (.cells #[.slice (some ⟨g, 0, none⟩) n n, .func (.func 44) #[] #[.pointer (some ⟨B, 0, none⟩)]] 79 (0, 0))) (p := ⟨g, i, none⟩) hgW (.int .i64 (A j))) 0
  rw [show (#[.slice (some ⟨g, 0, none⟩) n n, .func (.func 44) #[] #[.pointer (some ⟨B, 0, none⟩)]] : Array Value)[0]? = some (.slice (some ⟨g, 0, none⟩) n n) from rfl] at bx2
  have ci := hS1.cell i hi
  have cj := hS1.cell j hj
  have fi := hS1.free i
  have fj := hS1.free j
  obtain ⟨v', hy'⟩ := cell?_setCell_some (w := W.alloc (.cells #[.slice (some ⟨g, 0, none⟩) n n, .func (.func 44) #[] #[.pointer (some ⟨B, 0, none⟩)]] 79 (0, 0))) (p := ⟨g, i, none⟩) (x := .int .i64 (A j)) (q := ⟨g, j, none⟩) cj
  have HS := Aside0.mk hS1
  clear hS hS1
  go_enter Try.func92, Try.ntmps92
  go_wp2
  go_region
  all_goals (try go_wp2)
  all_goals go_end0
  all_goals exact ⟨rfl, (HS.out.set2 i j hi hj).drewN 1⟩
set_option maxHeartbeats 4000000 in
set_option maxRecDepth 100000 in
theorem len_calls {w0 : World} {g n B : Nat} {A : Nat → Nat} {W : World} (hS : SortW w0 g n A W) :
    Calls Try.prog 90 #[rkV g n B] W fun e w' => e = .returned (.int .i64 n) ∧ SortW w0 g n A w' := by
  unfold rkV
  have hS1 := hS.below (below_alloc (Below.refl _ _) (.cells #[.slice (some ⟨g, 0, none⟩) n n, .func (.func 44) #[] #[.pointer (some ⟨B, 0, none⟩)]] 79 (0, 0)))
  have bx := blk_cell (blk_new W (.cells #[.slice (some ⟨g, 0, none⟩) n n, .func (.func 44) #[] #[.pointer (some ⟨B, 0, none⟩)]] 79 (0, 0))) 0
  rw [show (#[.slice (some ⟨g, 0, none⟩) n n, .func (.func 44) #[] #[.pointer (some ⟨B, 0, none⟩)]] : Array Value)[0]? = some (.slice (some ⟨g, 0, none⟩) n n) from rfl] at bx
  have HS := Aside0.mk hS1
  clear hS hS1
  go_enter Try.func90, Try.ntmps90
  go_wp2
  go_ret
  exact ⟨rfl, HS.out⟩
set_option maxHeartbeats 4000000 in
set_option maxRecDepth 100000 in
theorem less_calls {w0 : World} {g n B h : Nat} {R : Nat → Int} {A : Nat → Nat} {W : World} (hR : RestW w0 g n B h R) (hS : SortW w0 g n A W) (i j : Nat) (hi : i < n) (hj : j < n) (hAi : A i < n) (hAj : A j < n) :
    Calls Try.prog 91 #[rkV g n B, .int .i64 i, .int .i64 j] W fun e w' => e = .returned (.bool (decide (R (A j) < R (A i)))) ∧ SortW w0 g n A w' := by
  unfold rkV
  have hS1 := hS.below (below_alloc (Below.refl _ _) (.cells #[.slice (some ⟨g, 0, none⟩) n n, .func (.func 44) #[] #[.pointer (some ⟨B, 0, none⟩)]] 79 (0, 0)))
  have bx := blk_cell (blk_new W (.cells #[.slice (some ⟨g, 0, none⟩) n n, .func (.func 44) #[] #[.pointer (some ⟨B, 0, none⟩)]] 79 (0, 0))) 0
  rw [show (#[.slice (some ⟨g, 0, none⟩) n n, .func (.func 44) #[] #[.pointer (some ⟨B, 0, none⟩)]] : Array Value)[0]? = some (.slice (some ⟨g, 0, none⟩) n n) from rfl] at bx
  have bf := blk_cell (blk_new W (.cells #[.slice (some ⟨g, 0, none⟩) n n, .func (.func 44) #[] #[.pointer (some ⟨B, 0, none⟩)]] 79 (0, 0))) 1
  rw [show (#[.slice (some ⟨g, 0, none⟩) n n, .func (.func 44) #[] #[.pointer (some ⟨B, 0, none⟩)]] : Array Value)[1]? = some (.func (.func 44) #[] #[.pointer (some ⟨B, 0, none⟩)]) from rfl] at bf
  have ci := hS1.cell i hi
  have cj := hS1.cell j hj
  have hlt := hR.lt
  have HR := Aside0.mk hR
  have HS := Aside0.mk hS1
  clear hS hS1 hR
  obtain ⟨W1, hW1⟩ : ∃ W1, W.alloc (.cells #[.slice (some ⟨g, 0, none⟩) n n, .func (.func 44) #[] #[.pointer (some ⟨B, 0, none⟩)]] 79 (0, 0)) = W1 := ⟨_, rfl⟩
  go_enter Try.func91, Try.ntmps91
  go_wp2
  rw [hW1] at bx bf ci cj HS
  go_region_held3 (fun w' => w'.cell? ⟨W.heap.size, 0, none⟩ = some (.slice (some ⟨g, 0, none⟩) n n) ∧ w'.cell? ⟨W.heap.size, 1, none⟩ = some (.func (.func 44) #[] #[.pointer (some ⟨B, 0, none⟩)]) ∧ w'.cell? ⟨g, i, none⟩ = some (.int .i64 (A i)) ∧ w'.cell? ⟨g, j, none⟩ = some (.int .i64 (A j)))
    (first | exact ⟨bx, bf, ci, cj⟩ | go_keep)
    (first | (go_at_call 44; refine (share1_calls HR.out (HS.out.drewN 1) (A i) (A j) hAi hAj).mono ?_; rintro e w3 ⟨rfl, q3, rfl⟩))
  all_goals go_wp2
  all_goals go_ret
  all_goals exact ⟨rfl, HS.out.drewN _⟩
inductive Sw (a b : Nat) : (Nat → Nat) → (Nat → Nat) → Prop
  | refl (A : Nat → Nat) : Sw a b A A
  | step {A A' : Nat → Nat} (i j : Nat) (h : Sw a b A A') (hi : a ≤ i ∧ i < b) (hj : a ≤ j ∧ j < b) : Sw a b A (swp A' i j)
theorem Sw.trans {a b : Nat} {A A' A2 : Nat → Nat} (h : Sw a b A A') (k : Sw a b A' A2) : Sw a b A A2 := by
  induction k with
  | refl => exact h
  | step i j _ hi hj ih => exact .step i j ih hi hj
theorem Sw.mono {a b c d : Nat} {A A' : Nat → Nat} (h : Sw a b A A') (h1 : c ≤ a) (h2 : b ≤ d) : Sw c d A A' := by
  induction h with
  | refl => exact .refl _
  | step i j _ hi hj ih => exact .step i j ih ⟨by omega, by omega⟩ ⟨by omega, by omega⟩
theorem Sw.out {a b : Nat} {A A' : Nat → Nat} (h : Sw a b A A') (k : Nat) (hk : k < a ∨ b ≤ k) : A' k = A k := by
  induction h with
  | refl => rfl
  | step i j _ hi hj ih => unfold swp; rw [if_neg (by omega), if_neg (by omega)]; exact ih
theorem Sw.img {a b : Nat} {A A' : Nat → Nat} (h : Sw a b A A') {Q : Nat → Prop} (hq : ∀ k, a ≤ k → k < b → Q (A k)) : ∀ k, a ≤ k → k < b → Q (A' k) := by
  induction h with
  | refl => exact hq
  | step i j _ hi hj ih =>
    intro k h1 h2
    unfold swp
    split
    · exact ih j hj.1 hj.2
    · split
      · exact ih i hi.1 hi.2
      · exact ih k h1 h2
theorem Sw.all {a b n : Nat} {A A' : Nat → Nat} (h : Sw a b A A') (hb : b ≤ n) {Q : Nat → Prop} (hq : ∀ k, k < n → Q (A k)) : ∀ k, k < n → Q (A' k) := fun k hk => by
  by_cases c : a ≤ k ∧ k < b
  · exact h.img (fun k _ h2 => hq k (by omega)) k c.1 c.2
  · rw [h.out k (by omega)]; exact hq k hk
def swpR (A : Nat → Nat) (a b n : Nat) : Nat → Nat := fun k => if a ≤ k ∧ k < a + n then A (k - a + b) else if b ≤ k ∧ k < b + n then A (k - b + a) else A k
def rot (A : Nat → Nat) (a m b : Nat) : Nat → Nat := fun k => if a ≤ k ∧ k < a + (b - m) then A (k - a + m) else if a + (b - m) ≤ k ∧ k < b then A (k - (b - m)) else A k
theorem rot_lo {A : Nat → Nat} {a m b k : Nat} (h1 : a ≤ k) (h2 : k < a + (b - m)) : rot A a m b k = A (k - a + m) := if_pos ⟨h1, h2⟩
theorem rot_hi {A : Nat → Nat} {a m b k : Nat} (h1 : a + (b - m) ≤ k) (h2 : k < b) : rot A a m b k = A (k - (b - m)) := (if_neg (by omega)).trans (if_pos ⟨h1, h2⟩)
theorem rot_out {A : Nat → Nat} {a m b k : Nat} (h : a ≤ m) (hm : m ≤ b) (h1 : k < a ∨ b ≤ k) : rot A a m b k = A k := (if_neg (by omega)).trans (if_neg (by omega))
theorem swpR_lo {A : Nat → Nat} {a b n k : Nat} (h1 : a ≤ k) (h2 : k < a + n) : swpR A a b n k = A (k - a + b) := if_pos ⟨h1, h2⟩
theorem swpR_hi {A : Nat → Nat} {a b n k : Nat} (h : a + n ≤ b) (h1 : b ≤ k) (h2 : k < b + n) : swpR A a b n k = A (k - b + a) := (if_neg (by omega)).trans (if_pos ⟨h1, h2⟩)
theorem swpR_out {A : Nat → Nat} {a b n k : Nat} (h1 : ¬ (a ≤ k ∧ k < a + n)) (h2 : ¬ (b ≤ k ∧ k < b + n)) : swpR A a b n k = A k := (if_neg h1).trans (if_neg h2)
theorem swpR_zero (A : Nat → Nat) (a b : Nat) : swpR A a b 0 = A := by
  funext k; exact swpR_out (by omega) (by omega)
theorem swp_is1 (A : Nat → Nat) {i j k : Nat} (h : k = i) : swp A i j k = A j := if_pos h
theorem swp_is2 (A : Nat → Nat) {i j k : Nat} (h : k ≠ i) (h2 : k = j) : swp A i j k = A i := (if_neg h).trans (if_pos h2)
theorem swp_is3 (A : Nat → Nat) {i j k : Nat} (h : k ≠ i) (h2 : k ≠ j) : swp A i j k = A k := (if_neg h).trans (if_neg h2)
theorem swpR_succ (A : Nat → Nat) (a b n : Nat) (h : a + (n + 1) ≤ b) : swp (swpR A a b n) (a + n) (b + n) = swpR A a b (n + 1) := by
  funext k
  by_cases c1 : k = a + n
  · rw [swp_is1 _ c1, swpR_out (by omega) (by omega), swpR_lo (by omega) (by omega)]; congr 1; omega
  · by_cases c2 : k = b + n
    · rw [swp_is2 _ c1 c2, swpR_out (by omega) (by omega), swpR_hi (by omega) (by omega) (by omega)]; congr 1; omega
    · rw [swp_is3 _ c1 c2]
      by_cases c3 : a ≤ k ∧ k < a + n
      · rw [swpR_lo c3.1 c3.2, swpR_lo (by omega) (by omega)]
      · by_cases c4 : b ≤ k ∧ k < b + n
        · rw [swpR_hi (by omega) c4.1 c4.2, swpR_hi (by omega) (by omega) (by omega)]
        · rw [swpR_out c3 c4, swpR_out (by omega) (by omega)]
theorem rot_gt (A : Nat → Nat) (m i j : Nat) (h : j < i) (hi : i ≤ m) : rot (swpR A (m - i) m j) (m - (i - j)) m (m + j) = rot A (m - i) m (m + j) := by
  funext k
  by_cases c0 : k < m - i ∨ m + j ≤ k
  · rw [rot_out (by omega) (by omega) (by omega), swpR_out (by omega) (by omega), rot_out (by omega) (by omega) (by omega)]
  · by_cases c1 : k < m - i + j
    · rw [rot_out (by omega) (by omega) (by omega), swpR_lo (by omega) (by omega), rot_lo (by omega) (by omega)]
    · rw [rot_hi (A := A) (by omega) (by omega)]
      by_cases c2 : k < m - (i - j) + j
      · rw [rot_lo (by omega) (by omega), swpR_hi (by omega) (by omega) (by omega)]; congr 1; omega
      · rw [rot_hi (by omega) (by omega), swpR_out (by omega) (by omega)]
theorem rot_lt (A : Nat → Nat) (m i j : Nat) (h : i < j) (hi : i ≤ m) : rot (swpR A (m - i) (m + j - i) i) (m - i) m (m + (j - i)) = rot A (m - i) m (m + j) := by
  funext k
  by_cases c0 : k < m - i ∨ m + j ≤ k
  · rw [rot_out (by omega) (by omega) (by omega), swpR_out (by omega) (by omega), rot_out (by omega) (by omega) (by omega)]
  · by_cases c1 : m + (j - i) ≤ k
    · rw [rot_out (by omega) (by omega) (by omega), swpR_hi (by omega) (by omega) (by omega), rot_hi (by omega) (by omega)]; congr 1; omega
    · by_cases c2 : k < m - i + (j - i)
      · rw [rot_lo (by omega) (by omega), rot_lo (by omega) (by omega), swpR_out (by omega) (by omega)]
      · rw [rot_hi (by omega) (by omega), swpR_lo (by omega) (by omega)]
        by_cases c3 : k < m - i + j
        · rw [rot_lo (by omega) (by omega)]; congr 1; omega
        · omega
theorem rot_eq (A : Nat → Nat) (m i : Nat) (hi : i ≤ m) : swpR A (m - i) m i = rot A (m - i) m (m + i) := by
  funext k
  by_cases c0 : k < m - i ∨ m + i ≤ k
  · rw [swpR_out (by omega) (by omega), rot_out (by omega) (by omega) (by omega)]
  · by_cases c1 : k < m
    · rw [swpR_lo (by omega) (by omega), rot_lo (by omega) (by omega)]
    · rw [swpR_hi (by omega) (by omega) (by omega), rot_hi (by omega) (by omega)]; congr 1; omega
theorem finds_less (g n B : Nat) (w : World) : Sem.run Try.prog (method (Try.prog.types.size + 100) 79 (rkV g n B) "Less") w = .ok (91, rkV g n B) w := by kernel_rfl
theorem finds_swap (g n B : Nat) (w : World) : Sem.run Try.prog (method (Try.prog.types.size + 100) 79 (rkV g n B) "Swap") w = .ok (92, rkV g n B) w := by kernel_rfl
theorem finds_len (g n B : Nat) (w : World) : Sem.run Try.prog (method (Try.prog.types.size + 100) 79 (rkV g n B) "Len") w = .ok (90, rkV g n B) w := by kernel_rfl
section
variable {P : Program} {ops : Array Oper} {Q : Exit → Act → World → Prop}
theorem goesI_ {rest : List Oper} {oi : Oper} {a : Act} {w : World} (N : Option Tmp) (hd : oi.dst = N) (hw : Region.wanted oi (yielded ops a.tmps) = true) {f : FuncId} {fn : Func} {T : TypeId} {rv : Value} {x : Operand} {name : String} {xs : Array Operand} {ts : Array TypeId} (hf : P.funcs[f]? = some fn) (hname : (fn.name == "runtime.NumGoroutine") = false) (hb : fn.body.isSome = true) (args : Array Value)
    (hop : oi.op = .call { callee := .invoke x name, args := xs, argTypes := ts }) (hx : a.eval x = .iface T rv) (hargs : xs.map a.eval = args) (hfind : ∀ w, Sem.run P (method (P.types.size + 100) T rv name) w = .ok (f, rv) w)
    (h : Calls P f (#[rv] ++ args) w fun e w' => ∃ v, e = .returned v ∧ wpList P ops Q rest (a.put N v) w') : wpList P ops Q (oi :: rest) a w := by
  refine wpList_step fun K hK => ?_
  rw [if_pos hw]
  have he := enters_ hf hname hb (#[rv] ++ args) w
  have hrun : (execOp a.eval oi).run P w = .ok (.enter f (#[rv] ++ args)) w := by
    have hfi := hfind w
    have e0 : (#[Value.iface T rv] ++ args)[0]? = some (.iface T rv) := by rw [Array.getElem?_append_left (by simp)]; rfl
    unfold execOp
    rw [hop]
    simp [resolve, invoke, callMethod, hargs, hx, Made.depth, e0, hfi, he]
  unfold Oper.wp
  rw [hrun, Oper.upon_enter]
  refine h.mono fun e w'' hh => ?_
  obtain ⟨v, rfl, hk⟩ := hh
  subst hd
  exact hK _ _ hk
end
set_option maxHeartbeats 4000000 in
set_option maxRecDepth 100000 in
theorem swapRange_calls {w0 : World} {g n B : Nat} {A : Nat → Nat} {W : World} (hlt : n < 4611686018427387904) (hS : SortW w0 g n A W) (a b c : Nat) (h1 : a + c ≤ b) (h2 : b + c ≤ n) :
    Calls Try.prog 72 #[.iface 79 (rkV g n B), .int .i64 a, .int .i64 b, .int .i64 c] W fun e w' => e = .returned (.tuple #[]) ∧ SortW w0 g n (swpR A a b c) w' ∧ Sw a (b + c) A (swpR A a b c) := by
  have HS := Aside0.mk hS
  clear hS
  have HC : ∀ {A : Nat → Nat} {W : World} (hS : SortW w0 g n A W) (i j : Nat) (x y : Int) (hx : x = i) (hy : y = j) (hi : i < n) (hj : j < n), Calls Try.prog 92 #[rkV g n B, .int .i64 x, .int .i64 y] W fun e w' => e = .returned (.tuple #[]) ∧ SortW w0 g n (swp A i j) w' := fun hS i j x y hx hy hi hj => by subst hx hy; exact swap_calls hlt hS i j hi hj
  have hF := finds_swap g n B
  generalize rkV g n B = rv at HC hF
  have HC := Aside0.mk @HC
  have HF := Aside0.mk hF
  clear hF
  go_enter Try.func72, Try.ntmps72
  go_wp2
  go_loopw [8] (fun v wr => ∃ i : Nat, i ≤ c ∧ v = .int .i64 i ∧ Aside0 (SortW w0 g n (swpR A a b i) wr) ∧ Aside0 (Sw a (b + c) A (swpR A a b i))) (fun v _ => c - (intOf v).toNat)
  case atStart => exact ⟨0, Nat.zero_le _, rfl, ⟨by rw [swpR_zero]; exact HS.out⟩, ⟨by rw [swpR_zero]; exact .refl _⟩⟩
  case round =>
    obtain ⟨i, hi, rfl, HS1, HW⟩ := hrel
    by_cases hl : i < c
    · have hd : decide ((i : Int) < (c : Int)) = true := decide_eq_true (by omega)
      go_wp2_with (first | ((with_reducible refine gate_dst (N := 21) rfl ?_); refine goesI_ (some 21) rfl rfl Try.func92 (by kernel_rfl) rfl #[.int .i64 ((a : Int) + i), .int .i64 ((b : Int) + i)] rfl rfl (by (try simp only [List.map_toArray, List.map_cons, List.map_nil]); first | done | rfl) HF.out ?_; refine (HC.out HS1.out (a + i) (b + i) _ _ (by omega) (by omega) (by omega) (by omega)).mono ?_; rintro e w' ⟨rfl, hS2⟩; refine ⟨_, rfl, ?_⟩))
      go_roundw
      case rel => exact ⟨i + 1, hl, by go_num, ⟨by rw [← swpR_succ A a b i (by omega)]; exact hS2⟩, ⟨by rw [← swpR_succ A a b i (by omega)]; exact .step _ _ HW.out (by omega) (by omega)⟩⟩
      case measure => simp [intOf]; omega
    · have hd : decide ((i : Int) < (c : Int)) = false := decide_eq_false (by omega)
      obtain rfl : i = c := by omega
      go_wp2
      go_end0
      exact ⟨rfl, HS1.out, HW.out⟩
theorem swapRange_at {w0 : World} {g n B : Nat} {A : Nat → Nat} {W : World} (hlt : n < 4611686018427387904) (hS : SortW w0 g n A W) (a b c : Nat) (x y z : Int) (hx : x = a) (hy : y = b) (hz : z = c) (h1 : a + c ≤ b) (h2 : b + c ≤ n) :
    Calls Try.prog 72 #[.iface 79 (rkV g n B), .int .i64 x, .int .i64 y, .int .i64 z] W fun e w' => e = .returned (.tuple #[]) ∧ SortW w0 g n (swpR A a b c) w' ∧ Sw a (b + c) A (swpR A a b c) := by
  subst hx hy hz
  exact swapRange_calls hlt hS a b c h1 h2
set_option maxHeartbeats 4000000 in
set_option maxRecDepth 100000 in
theorem rotate_calls {w0 : World} {g n B : Nat} {A : Nat → Nat} {W : World} (hlt : n < 4611686018427387904) (hS : SortW w0 g n A W) (a m b : Nat) (h1 : a < m) (h2 : m < b) (h3 : b ≤ n) :
    Calls Try.prog 69 #[.iface 79 (rkV g n B), .int .i64 a, .int .i64 m, .int .i64 b] W fun e w' => e = .returned (.tuple #[]) ∧ SortW w0 g n (rot A a m b) w' ∧ Sw a b A (rot A a m b) := by
  have HC : ∀ {A : Nat → Nat} {W : World} (hS : SortW w0 g n A W) (a b c : Nat) (x y z : Int) (hx : x = a) (hy : y = b) (hz : z = c) (h1 : a + c ≤ b) (h2 : b + c ≤ n), Calls Try.prog 72 #[.iface 79 (rkV g n B), .int .i64 x, .int .i64 y, .int .i64 z] W fun e w' => e = .returned (.tuple #[]) ∧ SortW w0 g n (swpR A a b c) w' ∧ Sw a (b + c) A (swpR A a b c) := fun hS a b c x y z hx hy hz h1 h2 => swapRange_at hlt hS a b c x y z hx hy hz h1 h2
  generalize rkV g n B = rv at HC
  have HC := Aside0.mk @HC
  have HS := Aside0.mk hS
  clear hS
  go_enter Try.func69, Try.ntmps69
  go_wp2
  go_loopw [8, 9] (fun u v wr => ∃ (i j : Nat) (A' : Nat → Nat), u = .int .i64 i ∧ v = .int .i64 j ∧ 1 ≤ i ∧ 1 ≤ j ∧ a + i ≤ m ∧ m + j ≤ b ∧ Aside0 (SortW w0 g n A' wr) ∧ Aside0 (rot A' (m - i) m (m + j) = rot A a m b) ∧ Aside0 (Sw a b A A')) (fun u v _ => (intOf u).toNat + (intOf v).toNat)
  case atStart => exact ⟨m - a, b - m, A, by go_num, by go_num, by omega, by omega, by omega, by omega, HS, ⟨by rw [show m - (m - a) = a by omega, show m + (b - m) = b by omega]⟩, ⟨.refl _⟩⟩
  case round =>
    obtain ⟨i, j, A', rfl, rfl, hi, hj, hi2, hj2, HS1, HR, HW⟩ := hrel
    by_cases c1 : i = j
    · subst c1
      have d1 : (((i : Int)) != ((i : Int))) = false := by simp
      go_wp2_with (first | (go_at_call 72; refine (HC.out HS1.out (m - i) m i _ _ _ (by omega) rfl rfl (by omega) (by omega)).mono ?_; rintro e w' ⟨rfl, hS2, hW2⟩))
      go_end0
      have e := rot_eq A' m i (by omega)
      rw [HR.out] at e
      rw [e] at hS2 hW2
      exact ⟨rfl, hS2, HW.out.trans (hW2.mono (by omega) (by omega))⟩
    · have d1 : (((i : Int)) != ((j : Int))) = true := by simp; omega
      by_cases c2 : j < i
      · have d2 : decide ((j : Int) < (i : Int)) = true := decide_eq_true (by omega)
        go_wp2_with (first | (go_at_call 72; refine (HC.out HS1.out (m - i) m j _ _ _ (by omega) rfl rfl (by omega) (by omega)).mono ?_; rintro e w' ⟨rfl, hS2, hW2⟩))
        go_roundw
        case rel => exact ⟨i - j, j, _, by go_num, rfl, by omega, by omega, by omega, by omega, ⟨hS2⟩, ⟨by rw [rot_gt A' m i j c2 (by omega)]; exact HR.out⟩, ⟨HW.out.trans (hW2.mono (by omega) (by omega))⟩⟩
        case measure => simp [intOf]; omega
      · have d2 : decide ((j : Int) < (i : Int)) = false := decide_eq_false (by omega)
        go_wp2_with (first | (go_at_call 72; refine (HC.out HS1.out (m - i) (m + j - i) i _ _ _ (by omega) (by omega) rfl (by omega) (by omega)).mono ?_; rintro e w' ⟨rfl, hS2, hW2⟩))
        go_roundw
        case rel => exact ⟨i, j - i, _, rfl, by go_num, by omega, by omega, by omega, by omega, ⟨hS2⟩, ⟨by rw [rot_lt A' m i j (by omega) (by omega)]; exact HR.out⟩, ⟨HW.out.trans (hW2.mono (by omega) (by omega))⟩⟩
        case measure => simp [intOf]; omega
theorem rotate_at {w0 : World} {g n B : Nat} {A : Nat → Nat} {W : World} (hlt : n < 4611686018427387904) (hS : SortW w0 g n A W) (a m b : Nat) (x y z : Int) (hx : x = a) (hy : y = m) (hz : z = b) (h1 : a < m) (h2 : m < b) (h3 : b ≤ n) :
    Calls Try.prog 69 #[.iface 79 (rkV g n B), .int .i64 x, .int .i64 y, .int .i64 z] W fun e w' => e = .returned (.tuple #[]) ∧ SortW w0 g n (rot A a m b) w' ∧ Sw a b A (rot A a m b) := by
  subst hx hy hz
  exact rotate_calls hlt hS a m b h1 h2 h3
def ltR (R : Nat → Int) (x y : Nat) : Prop := R y < R x ∨ R x = R y ∧ x < y
theorem ltR.trans {R : Nat → Int} {x y z : Nat} (h : ltR R x y) (k : ltR R y z) : ltR R x z := by
  unfold ltR at *; omega
def Sorted (R : Nat → Int) (A : Nat → Nat) (a b : Nat) : Prop := ∀ p q, a ≤ p → p < q → q < b → ltR R (A p) (A q)
structure Hole (R : Nat → Int) (A : Nat → Nat) (a i j x : Nat) : Prop where
  at_j : A j = x
  rest : ∀ p q, a ≤ p → p < q → q ≤ i → p ≠ j → q ≠ j → ltR R (A p) (A q)
  up : ∀ q, j < q → q ≤ i → ltR R x (A q)
  low : ∀ p, a ≤ p → p ≤ i → p ≠ j → A p < x
theorem Hole.start {R : Nat → Int} {A : Nat → Nat} {a i : Nat} (hs : Sorted R A a i) (hl : ∀ p, a ≤ p → p < i → A p < A i) : Hole R A a i i (A i) :=
  ⟨rfl, fun p q h1 h2 h3 h4 h5 => hs p q h1 h2 (by omega), fun q h1 h2 => by omega, fun p h1 h2 h3 => hl p h1 (by omega)⟩
theorem Hole.step {R : Nat → Int} {A : Nat → Nat} {a i j x : Nat} (h : Hole R A a i j x) (ha : a < j) (hj : j ≤ i) (hl : R (A (j - 1)) < R x) : Hole R (swp A j (j - 1)) a i (j - 1) x := by
  have e1 : swp A j (j - 1) (j - 1) = x := by rw [swp_is2 _ (by omega) rfl]; exact h.at_j
  have e2 : swp A j (j - 1) j = A (j - 1) := swp_is1 _ rfl
  have e3 : ∀ k, k ≠ j → k ≠ j - 1 → swp A j (j - 1) k = A k := fun k h1 h2 => swp_is3 _ h1 h2
  refine ⟨e1, ?_, ?_, ?_⟩
  · intro p q h1 h2 h3 h4 h5
    by_cases c : p = j
    · subst c
      rw [e2, e3 q (by omega) h5]
      exact h.rest (p - 1) q (by omega) (by omega) h3 (by omega) (by omega)
    · by_cases d : q = j
      · subst d
        rw [e2, e3 p c h4]
        exact h.rest p (q - 1) h1 (by omega) (by omega) c (by omega)
      · rw [e3 p c h4, e3 q d h5]
        exact h.rest p q h1 h2 h3 c d
  · intro q h1 h2
    by_cases d : q = j
    · rw [d, e2]; exact .inl hl
    · rw [e3 q d (by omega)]; exact h.up q (by omega) h2
  · intro p h1 h2 h3
    by_cases c : p = j
    · rw [c, e2]; exact h.low (j - 1) (by omega) (by omega) (by omega)
    · rw [e3 p c h3]; exact h.low p h1 h2 c
theorem Hole.done {R : Nat → Int} {A : Nat → Nat} {a i j x : Nat} (h : Hole R A a i j x) (ha : a ≤ j) (hj : j ≤ i) (hl : a < j → ¬ R (A (j - 1)) < R x) : Sorted R A a (i + 1) := by
  have below : ∀ p, a ≤ p → p < j → ltR R (A p) x := by
    intro p h1 h2
    have h0 : ltR R (A (j - 1)) x := by
      have := hl (by omega)
      have := h.low (j - 1) (by omega) (by omega) (by omega)
      unfold ltR; omega
    by_cases c : p = j - 1
    · rw [c]; exact h0
    · exact (h.rest p (j - 1) h1 (by omega) (by omega) (by omega) (by omega)).trans h0
  intro p q h1 h2 h3
  by_cases c : p = j
  · rw [c, h.at_j]; exact h.up q (by omega) (by omega)
  · by_cases d : q = j
    · rw [d, h.at_j]; exact below p h1 (by omega)
    · exact h.rest p q h1 h2 (by omega) c d
set_option maxHeartbeats 4000000 in
set_option maxRecDepth 100000 in
theorem insertion_calls {w0 : World} {g n B h : Nat} {R : Nat → Int} {A : Nat → Nat} {W : World} (hR : RestW w0 g n B h R) (hS : SortW w0 g n A W) (hA : ∀ k, k < n → A k < n) (a b : Nat) (h1 : a ≤ b) (h2 : b ≤ n) (hinc : ∀ p q, a ≤ p → p < q → q < b → A p < A q) :
    Calls Try.prog 62 #[.iface 79 (rkV g n B), .int .i64 a, .int .i64 b] W fun e w' => e = .returned (.tuple #[]) ∧ ∃ A', SortW w0 g n A' w' ∧ Sw a b A A' ∧ Sorted R A' a b := by
  have hlt := hR.lt
  have HC : ∀ {A : Nat → Nat} {W : World} (hS : SortW w0 g n A W) (i j : Nat) (x y : Int) (hx : x = i) (hy : y = j) (hi : i < n) (hj : j < n), Calls Try.prog 92 #[rkV g n B, .int .i64 x, .int .i64 y] W fun e w' => e = .returned (.tuple #[]) ∧ SortW w0 g n (swp A i j) w' := fun hS i j x y hx hy hi hj => by subst hx hy; exact swap_calls hlt hS i j hi hj
  have HL : ∀ {A : Nat → Nat} {W : World} (hS : SortW w0 g n A W) (i j : Nat) (x y : Int) (bo : Bool) (hx : x = i) (hy : y = j) (hi : i < n) (hj : j < n) (hAi : A i < n) (hAj : A j < n) (hb : decide (R (A j) < R (A i)) = bo), Calls Try.prog 91 #[rkV g n B, .int .i64 x, .int .i64 y] W fun e w' => e = .returned (.bool bo) ∧ SortW w0 g n A w' := fun hS i j x y bo hx hy hi hj hAi hAj hb => by subst hx hy hb; exact less_calls hR hS i j hi hj hAi hAj
  have hF := finds_swap g n B
  have hG := finds_less g n B
  generalize rkV g n B = rv at HC HL hF hG
  have HC := Aside0.mk @HC
  have HL := Aside0.mk @HL
  have HF := Aside0.mk hF
  have HG := Aside0.mk hG
  have HS := Aside0.mk hS
  have HA := Aside0.mk hA
  have HI := Aside0.mk hinc
  clear hF hG hS hR hA hinc
  go_enter Try.func62, Try.ntmps62
  go_wp2
  go_loopw [6] (fun v wr => ∃ (i : Nat) (A1 : Nat → Nat), v = .int .i64 i ∧ a + 1 ≤ i ∧ (i ≤ b ∨ i = a + 1) ∧ Aside0 (SortW w0 g n A1 wr) ∧ Aside0 (Sw a (min i b) A A1) ∧ Aside0 (Sorted R A1 a (min i b))) (fun v _ => b + 1 - (intOf v).toNat)
  case atStart => exact ⟨a + 1, A, by go_num, Nat.le_refl _, .inr rfl, HS, ⟨.refl _⟩, ⟨fun p q h1 h2 h3 => by omega⟩⟩
  case round =>
    obtain ⟨i, A1, rfl, hi, hib, HS1, HW, HO⟩ := hrel
    by_cases c1 : i < b
    · have d1 : decide ((i : Int) < (b : Int)) = true := decide_eq_true (by omega)
      have emin : min i b = i := by omega
      have emin1 : min (i + 1) b = i + 1 := by omega
      have hW1 := HW.out
      have hO1 := HO.out
      rw [emin] at hW1 hO1
      have hH := Hole.start hO1 (fun p h1 h2 => by
        rw [hW1.out i (by omega)]
        exact hW1.img (Q := fun v => v < A i) (fun k h1 h2 => HI.out k i h1 h2 c1) p h1 h2)
      have hW2 := hW1.mono (Nat.le_refl a) (Nat.le_succ i)
      have H1 := Aside0.mk hH
      have W2 := Aside0.mk hW2
      obtain ⟨x, hx⟩ : ∃ x, A1 i = x := ⟨_, rfl⟩
      have Hx := Aside0.mk hx
      rw [hx] at H1
      clear hH hW1 hO1 hW2 hx emin
      go_wp2
      go_loopw [7] (fun v wr => ∃ (j : Nat) (A2 : Nat → Nat), v = .int .i64 j ∧ a ≤ j ∧ j ≤ i ∧ Aside0 (SortW w0 g n A2 wr) ∧ Aside0 (Sw a (i + 1) A A2) ∧ Aside0 (Hole R A2 a i j x)) (fun v _ => (intOf v).toNat)
      case atStart => exact ⟨i, A1, rfl, by omega, Nat.le_refl _, HS1, W2, H1⟩
      case round =>
        obtain ⟨j, A2, rfl, hj, hji, HS2, HW2, HH⟩ := hrel
        have done : (a < j → ¬ R (A2 (j - 1)) < R x) → ∃ (i' : Nat) (A1 : Nat → Nat), Value.int .i64 ((i : Int) + 1) = .int .i64 (i' : Nat) ∧ a + 1 ≤ i' ∧ (i' ≤ b ∨ i' = a + 1) ∧ Aside0 (Sw a (min i' b) A A1) ∧ Aside0 (Sorted R A1 a (min i' b)) ∧ A1 = A2 := fun hl =>
          ⟨i + 1, A2, by go_num, by omega, by omega, ⟨by rw [emin1]; exact HW2.out⟩, ⟨by rw [emin1]; exact HH.out.done hj hji hl⟩, rfl⟩
        have DONE := Aside0.mk done
        clear done
        by_cases c2 : a < j
        · have d2 : decide ((a : Int) < (j : Int)) = true := decide_eq_true (by omega)
          have b1 : A2 j < n := HW2.out.all (n := n) (Q := fun v => v < n) (by omega) HA.out j (by omega)
          have b2 : A2 (j - 1) < n := HW2.out.all (n := n) (Q := fun v => v < n) (by omega) HA.out (j - 1) (by omega)
          by_cases c3 : R (A2 (j - 1)) < R x
          · have hb : decide (R (A2 (j - 1)) < R (A2 j)) = true := by rw [HH.out.at_j]; exact decide_eq_true c3
            have HB := Aside0.mk hb
            have C3 := Aside0.mk c3
            clear hb c3
            go_wp2_with (first
              | ((with_reducible refine gate_dst (N := 24) rfl ?_); refine goesI_ (some 24) rfl rfl Try.func91 (by kernel_rfl) rfl #[.int .i64 (j : Int), .int .i64 ((j : Int) - 1)] rfl rfl (by (try simp only [List.map_toArray, List.map_cons, List.map_nil]); first | done | rfl) HG.out ?_; refine (HL.out HS2.out j (j - 1) _ _ true rfl (by omega) (by omega) (by omega) b1 b2 HB.out).mono ?_; rintro e w' ⟨rfl, hS3⟩; refine ⟨_, rfl, ?_⟩)
              | ((with_reducible refine gate_dst (N := 32) rfl ?_); refine goesI_ (some 32) rfl rfl Try.func92 (by kernel_rfl) rfl #[.int .i64 (j : Int), .int .i64 ((j : Int) - 1)] rfl rfl (by (try simp only [List.map_toArray, List.map_cons, List.map_nil]); first | done | rfl) HF.out ?_; refine (HC.out hS3 j (j - 1) _ _ rfl (by omega) (by omega) (by omega)).mono ?_; rintro e w4 ⟨rfl, hS4⟩; refine ⟨_, rfl, ?_⟩))
            go_roundw
            case rel => exact ⟨j - 1, swp A2 j (j - 1), by go_num, by omega, by omega, ⟨hS4⟩, ⟨.step j (j - 1) HW2.out (by omega) (by omega)⟩, ⟨HH.out.step c2 hji C3.out⟩⟩
            case measure => simp [intOf]; omega
          · have hb : decide (R (A2 (j - 1)) < R (A2 j)) = false := by rw [HH.out.at_j]; exact decide_eq_false c3
            have HB := Aside0.mk hb
            have C3 := Aside0.mk c3
            clear hb c3
            go_wp2_with (first | ((with_reducible refine gate_dst (N := 24) rfl ?_); refine goesI_ (some 24) rfl rfl Try.func91 (by kernel_rfl) rfl #[.int .i64 (j : Int), .int .i64 ((j : Int) - 1)] rfl rfl (by (try simp only [List.map_toArray, List.map_cons, List.map_nil]); first | done | rfl) HG.out ?_; refine (HL.out HS2.out j (j - 1) _ _ false rfl (by omega) (by omega) (by omega) b1 b2 HB.out).mono ?_; rintro e w' ⟨rfl, hS3⟩; refine ⟨_, rfl, ?_⟩))
            go_roundw
            case rel =>
              obtain ⟨i', A3, e1, e2, e3, e4, e5, rfl⟩ := DONE.out (fun _ => C3.out)
              exact ⟨i', A3, e1, e2, e3, ⟨hS3⟩, e4, e5⟩
            case measure => simp [intOf]; omega
        · have d2 : decide ((a : Int) < (j : Int)) = false := decide_eq_false (by omega)
          go_wp2
          go_roundw
          case rel =>
            obtain ⟨i', A3, e1, e2, e3, e4, e5, rfl⟩ := DONE.out (fun hh => absurd hh c2)
            exact ⟨i', A3, e1, e2, e3, HS2, e4, e5⟩
          case measure => simp [intOf]; omega
    · have d1 : decide ((i : Int) < (b : Int)) = false := decide_eq_false (by omega)
      go_wp2
      go_end0
      have emin : min i b = b := by omega
      have hW1 := HW.out
      have hO1 := HO.out
      rw [emin] at hW1 hO1
      exact ⟨rfl, A1, HS1.out, hW1, hO1⟩
theorem insertion_at {w0 : World} {g n B h : Nat} {R : Nat → Int} {A : Nat → Nat} {W : World} (hR : RestW w0 g n B h R) (hS : SortW w0 g n A W) (hA : ∀ k, k < n → A k < n) (a b : Nat) (x y : Int) (hx : x = a) (hy : y = b) (h1 : a ≤ b) (h2 : b ≤ n) (hinc : ∀ p q, a ≤ p → p < q → q < b → A p < A q) :
    Calls Try.prog 62 #[.iface 79 (rkV g n B), .int .i64 x, .int .i64 y] W fun e w' => e = .returned (.tuple #[]) ∧ ∃ A', SortW w0 g n A' w' ∧ Sw a b A A' ∧ Sorted R A' a b := by
  subst hx hy
  exact insertion_calls hR hS hA a b h1 h2 hinc
structure Pre (R : Nat → Int) (A : Nat → Nat) (a m b : Nat) : Prop where
  s1 : Sorted R A a m
  s2 : Sorted R A m b
  x : ∀ p q, a ≤ p → p < m → m ≤ q → q < b → A p < A q
theorem sorted_join {R : Nat → Int} {A : Nat → Nat} {a c b : Nat} (h1 : Sorted R A a c) (h2 : Sorted R A c b) (hx : ∀ p q, a ≤ p → p < c → c ≤ q → q < b → ltR R (A p) (A q)) : Sorted R A a b := by
  intro p q hp hpq hq
  by_cases c1 : q < c
  · exact h1 p q hp hpq c1
  · by_cases c2 : p < c
    · exact hx p q hp c2 (by omega) hq
    · exact h2 p q (by omega) hpq hq
theorem sorted_le {R : Nat → Int} {A : Nat → Nat} {a b : Nat} (h : Sorted R A a b) (p q : Nat) (h1 : a ≤ p) (h2 : p ≤ q) (h3 : q < b) : A p = A q ∨ ltR R (A p) (A q) := by
  by_cases c : p = q
  · exact .inl (by rw [c])
  · exact .inr (h p q h1 (by omega) h3)
theorem sorted_R {R : Nat → Int} {A : Nat → Nat} {a b : Nat} (h : Sorted R A a b) (p q : Nat) (h1 : a ≤ p) (h2 : p ≤ q) (h3 : q < b) : R (A q) ≤ R (A p) := by
  rcases sorted_le h p q h1 h2 h3 with e | e
  · rw [e]; exact Int.le_refl _
  · unfold ltR at e; omega
structure HoleG (R : Nat → Int) (A : Nat → Nat) (a b j x : Nat) : Prop where
  at_j : A j = x
  rest : ∀ p q, a ≤ p → p < q → q < b → p ≠ j → q ≠ j → ltR R (A p) (A q)
theorem HoleG.dn {R : Nat → Int} {A : Nat → Nat} {a b j x : Nat} (h : HoleG R A a b j x) (ha : a < j) (hj : j < b) : HoleG R (swp A j (j - 1)) a b (j - 1) x := by
  have e1 : swp A j (j - 1) (j - 1) = x := by rw [swp_is2 _ (by omega) rfl]; exact h.at_j
  have e2 : swp A j (j - 1) j = A (j - 1) := swp_is1 _ rfl
  have e3 : ∀ k, k ≠ j → k ≠ j - 1 → swp A j (j - 1) k = A k := fun k h1 h2 => swp_is3 _ h1 h2
  refine ⟨e1, fun p q h1 h2 h3 h4 h5 => ?_⟩
  by_cases c : p = j
  · subst c
    rw [e2, e3 q (by omega) h5]
    exact h.rest (p - 1) q (by omega) (by omega) h3 (by omega) (by omega)
  · by_cases d : q = j
    · subst d
      rw [e2, e3 p c h4]
      exact h.rest p (q - 1) h1 (by omega) (by omega) c (by omega)
    · rw [e3 p c h4, e3 q d h5]
      exact h.rest p q h1 h2 h3 c d
theorem HoleG.up {R : Nat → Int} {A : Nat → Nat} {a b j x : Nat} (h : HoleG R A a b j x) (ha : a ≤ j) (hj : j + 1 < b) : HoleG R (swp A j (j + 1)) a b (j + 1) x := by
  have e1 : swp A j (j + 1) (j + 1) = x := by rw [swp_is2 _ (by omega) rfl]; exact h.at_j
  have e2 : swp A j (j + 1) j = A (j + 1) := swp_is1 _ rfl
  have e3 : ∀ k, k ≠ j → k ≠ j + 1 → swp A j (j + 1) k = A k := fun k h1 h2 => swp_is3 _ h1 h2
  refine ⟨e1, fun p q h1 h2 h3 h4 h5 => ?_⟩
  by_cases c : p = j
  · subst c
    rw [e2, e3 q (by omega) h5]
    exact h.rest (p + 1) q (by omega) (by omega) h3 (by omega) (by omega)
  · by_cases d : q = j
    · subst d
      rw [e2, e3 p c h4]
      exact h.rest p (q + 1) h1 (by omega) (by omega) c (by omega)
    · rw [e3 p c h4, e3 q d h5]
      exact h.rest p q h1 h2 h3 c d
theorem HoleG.close {R : Nat → Int} {A : Nat → Nat} {a b j x : Nat} (h : HoleG R A a b j x) (h1 : ∀ p, a ≤ p → p < j → ltR R (A p) x) (h2 : ∀ q, j < q → q < b → ltR R x (A q)) : Sorted R A a b := by
  intro p q hp hpq hq
  by_cases c : p = j
  · rw [c, h.at_j]; exact h2 q (by omega) hq
  · by_cases d : q = j
    · rw [d, h.at_j]; exact h1 p hp (by omega)
    · exact h.rest p q hp hpq hq c d
structure Up (R : Nat → Int) (A A2 : Nat → Nat) (a b k : Nat) : Prop where
  hole : HoleG R A2 a b k (A a)
  dn : ∀ p, a ≤ p → p < k → ltR R (A2 p) (A a)
  tail : ∀ q, k < q → A2 q = A q
theorem Up.start {R : Nat → Int} {A : Nat → Nat} {a m b : Nat} (h : Pre R A a m b) (hm : m = a + 1) : Up R A A a b a :=
  ⟨⟨rfl, fun p q h1 h2 h3 h4 h5 => h.s2 p q (by omega) h2 h3⟩, fun p h1 h2 => absurd h1 (by omega), fun q _ => rfl⟩
theorem Up.next {R : Nat → Int} {A A2 : Nat → Nat} {a b k : Nat} (h : Up R A A2 a b k) (ha : a ≤ k) (hb : k + 1 < b) (hl : R (A a) < R (A (k + 1))) : Up R A (swp A2 k (k + 1)) a b (k + 1) := by
  refine ⟨h.hole.up ha hb, fun p h1 h2 => ?_, fun q hq => ?_⟩
  · by_cases c : p = k
    · rw [c, swp_is1 _ rfl, h.tail (k + 1) (by omega)]; exact .inl hl
    · rw [swp_is3 _ c (by omega)]; exact h.dn p h1 (by omega)
  · rw [swp_is3 _ (by omega) (by omega)]; exact h.tail q (by omega)
theorem Up.done {R : Nat → Int} {A A2 : Nat → Nat} {a m b k : Nat} (h : Up R A A2 a b k) (hp : Pre R A a m b) (hm : m = a + 1) (hk : a ≤ k) (hr : ∀ q, k < q → q < b → ¬ R (A a) < R (A q)) : Sorted R A2 a b :=
  h.hole.close h.dn fun q h1 h2 => by
    rw [h.tail q h1]
    have := hp.x a q (Nat.le_refl _) (by omega) (by omega) h2
    have := hr q h1 h2
    unfold ltR; omega
structure Dn (R : Nat → Int) (A A2 : Nat → Nat) (a m b k : Nat) : Prop where
  hole : HoleG R A2 a b k (A m)
  up : ∀ q, k < q → q < b → ltR R (A m) (A2 q)
  head : ∀ p, p < k → A2 p = A p
theorem Dn.start {R : Nat → Int} {A : Nat → Nat} {a m b : Nat} (h : Pre R A a m b) (hm : b = m + 1) : Dn R A A a m b m :=
  ⟨⟨rfl, fun p q h1 h2 h3 h4 h5 => h.s1 p q h1 h2 (by omega)⟩, fun q h1 h2 => absurd h1 (by omega), fun q _ => rfl⟩
theorem Dn.next {R : Nat → Int} {A A2 : Nat → Nat} {a m b k : Nat} (h : Dn R A A2 a m b k) (ha : a < k) (hb : k < b) (hl : R (A (k - 1)) < R (A m)) : Dn R A (swp A2 k (k - 1)) a m b (k - 1) := by
  refine ⟨h.hole.dn ha hb, fun q h1 h2 => ?_, fun p hp => ?_⟩
  · by_cases c : q = k
    · rw [c, swp_is1 _ rfl, h.head (k - 1) (by omega)]; exact .inl hl
    · rw [swp_is3 _ c (by omega)]; exact h.up q (by omega) h2
  · rw [swp_is3 _ (by omega) (by omega)]; exact h.head p (by omega)
theorem Dn.done {R : Nat → Int} {A A2 : Nat → Nat} {a m b k : Nat} (h : Dn R A A2 a m b k) (hp : Pre R A a m b) (hm : b = m + 1) (hk : k ≤ m) (hr : ∀ p, a ≤ p → p < k → ¬ R (A p) < R (A m)) : Sorted R A2 a b :=
  h.hole.close (fun p h1 h2 => by
    rw [h.head p h2]
    have := hp.x p m h1 (by omega) (Nat.le_refl _) (by omega)
    have := hr p h1 h2
    unfold ltR; omega) h.up
structure Cut3 (R : Nat → Int) (A : Nat → Nat) (a m b mid s : Nat) : Prop where
  sa : a ≤ s
  sm : s ≤ m
  smid : s ≤ mid
  me : m ≤ mid + m - s
  eb : mid + m - s ≤ b
  lo : s = a ∨ mid + m - s = b ∨ ¬ R (A (s - 1)) < R (A (mid + m - s))
  hi : s = m ∨ mid + m - s = m ∨ R (A s) < R (A (mid + m - s - 1))
theorem rot_triv1 (A : Nat → Nat) (m b : Nat) (h : m ≤ b) : rot A m m b = A := by
  funext k
  by_cases c : m ≤ k ∧ k < b
  · rw [rot_lo c.1 (by omega)]; congr 1; omega
  · rw [rot_out (Nat.le_refl _) h (by omega)]
theorem rot_triv2 (A : Nat → Nat) (a m : Nat) (h : a ≤ m) : rot A a m m = A := by
  funext k
  by_cases c : a ≤ k ∧ k < m
  · rw [rot_hi (by omega) c.2]; congr 1; omega
  · rw [rot_out h (Nat.le_refl _) (by omega)]
theorem cut_pre1 {R : Nat → Int} {A : Nat → Nat} {a m b mid s : Nat} (hp : Pre R A a m b) (hc : Cut3 R A a m b mid s) (hmid : mid < b) : Pre R (rot A s m (mid + m - s)) a s mid := by
  obtain ⟨c1, c2, c3, c4, c5, _, _⟩ := hc
  have e1 : ∀ k, k < s → rot A s m (mid + m - s) k = A k := fun k h => rot_out c2 c4 (.inl h)
  have e2 : ∀ k, s ≤ k → k < mid → rot A s m (mid + m - s) k = A (k - s + m) := fun k h1 h2 => rot_lo h1 (by omega)
  refine ⟨fun p q h1 h2 h3 => ?_, fun p q h1 h2 h3 => ?_, fun p q h1 h2 h3 h4 => ?_⟩
  · rw [e1 p (by omega), e1 q h3]; exact hp.s1 p q h1 h2 (by omega)
  · rw [e2 p h1 (by omega), e2 q (by omega) h3]; exact hp.s2 _ _ (by omega) (by omega) (by omega)
  · rw [e1 p h2, e2 q h3 h4]; exact hp.x _ _ h1 (by omega) (by omega) (by omega)
theorem cut_pre2 {R : Nat → Int} {A : Nat → Nat} {a m b mid s : Nat} (hp : Pre R A a m b) (hc : Cut3 R A a m b mid s) (hmid : mid < b) : Pre R (rot A s m (mid + m - s)) mid (mid + m - s) b := by
  obtain ⟨c1, c2, c3, c4, c5, _, _⟩ := hc
  have e1 : ∀ k, mid + m - s ≤ k → rot A s m (mid + m - s) k = A k := fun k h => rot_out c2 c4 (.inr h)
  have e2 : ∀ k, mid ≤ k → k < mid + m - s → rot A s m (mid + m - s) k = A (k - (mid - s)) := fun k h1 h2 => by
    rw [rot_hi (by omega) h2]; congr 1; omega
  refine ⟨fun p q h1 h2 h3 => ?_, fun p q h1 h2 h3 => ?_, fun p q h1 h2 h3 h4 => ?_⟩
  · rw [e2 p h1 (by omega), e2 q (by omega) h3]; exact hp.s1 _ _ (by omega) (by omega) (by omega)
  · rw [e1 p h1, e1 q (by omega)]; exact hp.s2 p q (by omega) h2 h3
  · rw [e2 p h1 h2, e1 q h3]; exact hp.x _ _ (by omega) (by omega) (by omega) h4
theorem cut_cross {R : Nat → Int} {A : Nat → Nat} {a m b mid s : Nat} (hp : Pre R A a m b) (hc : Cut3 R A a m b mid s) (hmid : mid < b) (p q : Nat) (h1 : a ≤ p) (h2 : p < mid) (h3 : mid ≤ q) (h4 : q < b) : ltR R (rot A s m (mid + m - s) p) (rot A s m (mid + m - s) q) := by
  obtain ⟨c1, c2, c3, c4, c5, lo, hi⟩ := hc
  have e1 : ∀ k, k < s → rot A s m (mid + m - s) k = A k := fun k h => rot_out c2 c4 (.inl h)
  have e2 : ∀ k, s ≤ k → k < mid → rot A s m (mid + m - s) k = A (k - s + m) := fun k h1 h2 => rot_lo h1 (by omega)
  have e3 : ∀ k, mid + m - s ≤ k → rot A s m (mid + m - s) k = A k := fun k h => rot_out c2 c4 (.inr h)
  have e4 : ∀ k, mid ≤ k → k < mid + m - s → rot A s m (mid + m - s) k = A (k - (mid - s)) := fun k h1 h2 => by
    rw [rot_hi (by omega) h2]; congr 1; omega
  by_cases cp : p < s
  · rw [e1 p cp]
    by_cases cq : mid + m - s ≤ q
    · rw [e3 q cq]
      have l1 : ¬ R (A (s - 1)) < R (A (mid + m - s)) := by
        rcases lo with h | h | h
        · omega
        · omega
        · exact h
      have l2 := sorted_R hp.s1 p (s - 1) h1 (by omega) (by omega)
      have l3 := sorted_R hp.s2 (mid + m - s) q c4 cq h4
      have l4 := hp.x p q h1 (by omega) (by omega) h4
      unfold ltR; omega
    · rw [e4 q h3 (by omega)]
      exact hp.s1 _ _ h1 (by omega) (by omega)
  · rw [e2 p (by omega) h2]
    by_cases cq : mid + m - s ≤ q
    · rw [e3 q cq]
      exact hp.s2 _ _ (by omega) (by omega) h4
    · rw [e4 q h3 (by omega)]
      have l1 : R (A s) < R (A (mid + m - s - 1)) := by
        rcases hi with h | h | h
        · omega
        · omega
        · exact h
      have l2 := sorted_R hp.s2 (p - s + m) (mid + m - s - 1) (by omega) (by omega) (by omega)
      have l3 := sorted_R hp.s1 s (q - (mid - s)) c1 (by omega) (by omega)
      exact .inl (by omega)
set_option maxHeartbeats 4000000 in
set_option maxRecDepth 100000 in
theorem symMerge_c1 {w0 : World} {g n B h : Nat} {R : Nat → Int} (hR : RestW w0 g n B h R) (A : Nat → Nat) (W : World) (a m b : Nat) (hS : SortW w0 g n A W) (hA : ∀ k, k < n → A k < n) (hP : Pre R A a m b) (h1 : a < m) (h2 : m < b) (h3 : b ≤ n) (k1 : m = a + 1) :
    Calls Try.prog 63 #[.iface 79 (rkV g n B), .int .i64 a, .int .i64 m, .int .i64 b] W fun e w' => e = .returned (.tuple #[]) ∧ ∃ A', SortW w0 g n A' w' ∧ Sw a b A A' ∧ Sorted R A' a b := by
  have hlt := hR.lt
  have HC : ∀ {A : Nat → Nat} {W : World} (hS : SortW w0 g n A W) (i j : Nat) (x y : Int) (hx : x = i) (hy : y = j) (hi : i < n) (hj : j < n), Calls Try.prog 92 #[rkV g n B, .int .i64 x, .int .i64 y] W fun e w' => e = .returned (.tuple #[]) ∧ SortW w0 g n (swp A i j) w' := fun hS i j x y hx hy hi hj => by subst hx hy; exact swap_calls hlt hS i j hi hj
  have HL : ∀ {A : Nat → Nat} {W : World} (hS : SortW w0 g n A W) (i j : Nat) (x y : Int) (bo : Bool) (hx : x = i) (hy : y = j) (hi : i < n) (hj : j < n) (hAi : A i < n) (hAj : A j < n) (hb : decide (R (A j) < R (A i)) = bo), Calls Try.prog 91 #[rkV g n B, .int .i64 x, .int .i64 y] W fun e w' => e = .returned (.bool bo) ∧ SortW w0 g n A w' := fun hS i j x y bo hx hy hi hj hAi hAj hb => by subst hx hy hb; exact less_calls hR hS i j hi hj hAi hAj
  have HT : ∀ {A : Nat → Nat} {W : World} (hS : SortW w0 g n A W) (a m b : Nat) (x y z : Int) (hx : x = a) (hy : y = m) (hz : z = b) (h1 : a < m) (h2 : m < b) (h3 : b ≤ n), Calls Try.prog 69 #[.iface 79 (rkV g n B), .int .i64 x, .int .i64 y, .int .i64 z] W fun e w' => e = .returned (.tuple #[]) ∧ SortW w0 g n (rot A a m b) w' ∧ Sw a b A (rot A a m b) := fun hS a m b x y z hx hy hz h1 h2 h3 => rotate_at hlt hS a m b x y z hx hy hz h1 h2 h3
  have hF := finds_swap g n B
  have hG := finds_less g n B
  generalize rkV g n B = rv at HC HL HT hF hG ⊢
  have HC := Aside0.mk @HC
  have HL := Aside0.mk @HL
  have HT := Aside0.mk @HT
  have HF := Aside0.mk hF
  have HG := Aside0.mk hG
  clear hF hG hR
  have HS := Aside0.mk hS
  have HA := Aside0.mk hA
  have HP := Aside0.mk hP
  clear hS hA hP


  have d1 : ((m : Int) - (a : Int) == 1) = true := by simp; omega
  have K1 := Aside0.mk k1
  clear k1
  go_enter Try.func63, Try.ntmps63
  go_wp2
  go_loopw [8, 9] (fun u v wr => ∃ (i j : Nat), u = .int .i64 i ∧ v = .int .i64 j ∧ m ≤ i ∧ i ≤ j ∧ j ≤ b ∧ Aside0 (SortW w0 g n A wr) ∧ Aside0 (i = m ∨ R (A a) < R (A (i - 1))) ∧ Aside0 (j = b ∨ ¬ R (A a) < R (A j))) (fun u v _ => (intOf v).toNat - (intOf u).toNat)
  case atStart => exact ⟨m, b, rfl, rfl, Nat.le_refl _, by omega, Nat.le_refl _, HS, ⟨.inl rfl⟩, ⟨.inl rfl⟩⟩
  case round =>
    obtain ⟨i, j, rfl, rfl, hi, hij, hj, HS1, HI, HJ⟩ := hrel
    by_cases c1 : i < j
    · have d2 : decide ((i : Int) < (j : Int)) = true := decide_eq_true (by omega)
      obtain ⟨c, hc⟩ : ∃ c, (i + j) / 2 = c := ⟨_, rfl⟩
      have hc1 : i ≤ c := by omega
      have hc2 : c < j := by omega
      have hcI : ((i : Int) + (j : Int)) / 2 = (c : Int) := by omega
      have b1 : A c < n := HA.out c (by omega)
      have b2 : A a < n := HA.out a (by omega)
      clear hc
      by_cases c3 : R (A a) < R (A c)
      · have HB := Aside0.mk (show decide (R (A a) < R (A c)) = true from decide_eq_true c3)
        have C3 := Aside0.mk c3
        clear c3
        go_wp2_with (first | ((with_reducible refine gate_dst (N := 41) rfl ?_); refine goesI_ (some 41) rfl rfl Try.func91 (by kernel_rfl) rfl #[.int .i64 (c : Int), .int .i64 (a : Int)] rfl rfl (by (try simp only [List.map_toArray, List.map_cons, List.map_nil]); first | done | rfl) HG.out ?_; refine (HL.out HS1.out c a _ _ true rfl rfl (by omega) (by omega) b1 b2 HB.out).mono ?_; rintro e w' ⟨rfl, hS3⟩; refine ⟨_, rfl, ?_⟩))
        go_roundw
        case rel => exact ⟨c + 1, j, by go_num, rfl, by omega, by omega, hj, ⟨hS3⟩, ⟨.inr (by rw [show c + 1 - 1 = c by omega]; exact C3.out)⟩, HJ⟩
        case measure => simp [intOf]; omega
      · have HB := Aside0.mk (show decide (R (A a) < R (A c)) = false from decide_eq_false c3)
        have C3 := Aside0.mk c3
        clear c3
        go_wp2_with (first | ((with_reducible refine gate_dst (N := 41) rfl ?_); refine goesI_ (some 41) rfl rfl Try.func91 (by kernel_rfl) rfl #[.int .i64 (c : Int), .int .i64 (a : Int)] rfl rfl (by (try simp only [List.map_toArray, List.map_cons, List.map_nil]); first | done | rfl) HG.out ?_; refine (HL.out HS1.out c a _ _ false rfl rfl (by omega) (by omega) b1 b2 HB.out).mono ?_; rintro e w' ⟨rfl, hS3⟩; refine ⟨_, rfl, ?_⟩))
        go_roundw
        case rel => exact ⟨i, c, rfl, by go_num, hi, by omega, by omega, ⟨hS3⟩, HI, ⟨.inr C3.out⟩⟩
        case measure => simp [intOf]; omega
    · have d2 : decide ((i : Int) < (j : Int)) = false := decide_eq_false (by omega)
      have hij2 : i = j := by omega
      subst hij2
      have HQ1 : Aside0 (∀ k, m ≤ k → k < i → R (A a) < R (A k)) := ⟨fun k q1 q2 => by
        rcases HI.out with e | e
        · omega
        · have := sorted_R HP.out.s2 k (i - 1) q1 (by omega) (by omega)
          omega⟩
      have HQ2 : Aside0 (∀ q, i ≤ q → q < b → ¬ R (A a) < R (A q)) := ⟨fun q q1 q2 => by
        rcases HJ.out with e | e
        · omega
        · have := sorted_R HP.out.s2 i q hi q1 q2
          omega⟩
      go_wp2_with fail
      go_loopw [11] (fun u wr => ∃ (k : Nat) (A2 : Nat → Nat), u = .int .i64 k ∧ a ≤ k ∧ k < i ∧ Aside0 (SortW w0 g n A2 wr) ∧ Aside0 (Up R A A2 a b k) ∧ Aside0 (Sw a b A A2)) (fun u _ => i - (intOf u).toNat)
      case atStart => exact ⟨a, A, rfl, Nat.le_refl _, by omega, HS1, ⟨.start HP.out K1.out⟩, ⟨.refl _⟩⟩
      case round =>
        obtain ⟨k, A2, rfl, hk1, hk2, HS2, HU, HW⟩ := hrel
        by_cases c4 : k + 1 < i
        · have d4 : decide ((k : Int) < (i : Int) - 1) = true := decide_eq_true (by omega)
          go_wp2_with (first | ((with_reducible refine gate_dst (N := 56) rfl ?_); refine goesI_ (some 56) rfl rfl Try.func92 (by kernel_rfl) rfl #[.int .i64 (k : Int), .int .i64 ((k : Int) + 1)] rfl rfl (by (try simp only [List.map_toArray, List.map_cons, List.map_nil]); first | done | rfl) HF.out ?_; refine (HC.out HS2.out k (k + 1) _ _ rfl (by omega) (by omega) (by omega)).mono ?_; rintro e w4 ⟨rfl, hS4⟩; refine ⟨_, rfl, ?_⟩))
          go_roundw
          case rel => exact ⟨k + 1, swp A2 k (k + 1), by go_num, by omega, c4, ⟨hS4⟩, ⟨HU.out.next hk1 (by omega) (HQ1.out (k + 1) (by have := K1.out; omega) c4)⟩, ⟨.step k (k + 1) HW.out (by omega) (by omega)⟩⟩
          case measure => simp [intOf]; omega
        · have d4 : decide ((k : Int) < (i : Int) - 1) = false := decide_eq_false (by omega)
          go_wp2
          refine bodyPost_ret (results_none rfl _ _ _) rfl ?_
          exact ⟨rfl, A2, HS2.out, HW.out, HU.out.done HP.out K1.out hk1 (fun q q1 q2 => Int.not_lt.mpr (HQ2.out q (by omega) q2))⟩
set_option maxHeartbeats 4000000 in
set_option maxRecDepth 100000 in
theorem symMerge_c2 {w0 : World} {g n B h : Nat} {R : Nat → Int} (hR : RestW w0 g n B h R) (A : Nat → Nat) (W : World) (a m b : Nat) (hS : SortW w0 g n A W) (hA : ∀ k, k < n → A k < n) (hP : Pre R A a m b) (h1 : a < m) (h2 : m < b) (h3 : b ≤ n) (k1 : ¬ m = a + 1) (k2 : b = m + 1) :
    Calls Try.prog 63 #[.iface 79 (rkV g n B), .int .i64 a, .int .i64 m, .int .i64 b] W fun e w' => e = .returned (.tuple #[]) ∧ ∃ A', SortW w0 g n A' w' ∧ Sw a b A A' ∧ Sorted R A' a b := by
  have hlt := hR.lt
  have HC : ∀ {A : Nat → Nat} {W : World} (hS : SortW w0 g n A W) (i j : Nat) (x y : Int) (hx : x = i) (hy : y = j) (hi : i < n) (hj : j < n), Calls Try.prog 92 #[rkV g n B, .int .i64 x, .int .i64 y] W fun e w' => e = .returned (.tuple #[]) ∧ SortW w0 g n (swp A i j) w' := fun hS i j x y hx hy hi hj => by subst hx hy; exact swap_calls hlt hS i j hi hj
  have HL : ∀ {A : Nat → Nat} {W : World} (hS : SortW w0 g n A W) (i j : Nat) (x y : Int) (bo : Bool) (hx : x = i) (hy : y = j) (hi : i < n) (hj : j < n) (hAi : A i < n) (hAj : A j < n) (hb : decide (R (A j) < R (A i)) = bo), Calls Try.prog 91 #[rkV g n B, .int .i64 x, .int .i64 y] W fun e w' => e = .returned (.bool bo) ∧ SortW w0 g n A w' := fun hS i j x y bo hx hy hi hj hAi hAj hb => by subst hx hy hb; exact less_calls hR hS i j hi hj hAi hAj
  have HT : ∀ {A : Nat → Nat} {W : World} (hS : SortW w0 g n A W) (a m b : Nat) (x y z : Int) (hx : x = a) (hy : y = m) (hz : z = b) (h1 : a < m) (h2 : m < b) (h3 : b ≤ n), Calls Try.prog 69 #[.iface 79 (rkV g n B), .int .i64 x, .int .i64 y, .int .i64 z] W fun e w' => e = .returned (.tuple #[]) ∧ SortW w0 g n (rot A a m b) w' ∧ Sw a b A (rot A a m b) := fun hS a m b x y z hx hy hz h1 h2 h3 => rotate_at hlt hS a m b x y z hx hy hz h1 h2 h3
  have hF := finds_swap g n B
  have hG := finds_less g n B
  generalize rkV g n B = rv at HC HL HT hF hG ⊢
  have HC := Aside0.mk @HC
  have HL := Aside0.mk @HL
  have HT := Aside0.mk @HT
  have HF := Aside0.mk hF
  have HG := Aside0.mk hG
  clear hF hG hR
  have HS := Aside0.mk hS
  have HA := Aside0.mk hA
  have HP := Aside0.mk hP
  clear hS hA hP


  have d1 : ((m : Int) - (a : Int) == 1) = false := by simp; omega
  have d2 : ((b : Int) - (m : Int) == 1) = true := by simp; omega
  have K2 := Aside0.mk k2
  clear k2
  go_enter Try.func63, Try.ntmps63
  go_wp2
  go_loopw [12, 13] (fun u v wr => ∃ (i j : Nat), u = .int .i64 i ∧ v = .int .i64 j ∧ a ≤ i ∧ i ≤ j ∧ j ≤ m ∧ Aside0 (SortW w0 g n A wr) ∧ Aside0 (i = a ∨ ¬ R (A (i - 1)) < R (A m)) ∧ Aside0 (j = m ∨ R (A j) < R (A m))) (fun u v _ => (intOf v).toNat - (intOf u).toNat)
  case atStart => exact ⟨a, m, rfl, rfl, Nat.le_refl _, by omega, Nat.le_refl _, HS, ⟨.inl rfl⟩, ⟨.inl rfl⟩⟩
  case round =>
    obtain ⟨i, j, rfl, rfl, hi, hij, hj, HS1, HI, HJ⟩ := hrel
    by_cases c1 : i < j
    · have d3 : decide ((i : Int) < (j : Int)) = true := decide_eq_true (by omega)
      obtain ⟨c, hc⟩ : ∃ c, (i + j) / 2 = c := ⟨_, rfl⟩
      have hc1 : i ≤ c := by omega
      have hc2 : c < j := by omega
      have hcI : ((i : Int) + (j : Int)) / 2 = (c : Int) := by omega
      have b1 : A m < n := HA.out m (by omega)
      have b2 : A c < n := HA.out c (by omega)
      clear hc
      by_cases c3 : R (A c) < R (A m)
      · have HB := Aside0.mk (show decide (R (A c) < R (A m)) = true from decide_eq_true c3)
        have C3 := Aside0.mk c3
        clear c3
        go_wp2_with (first | ((with_reducible refine gate_dst (N := 75) rfl ?_); refine goesI_ (some 75) rfl rfl Try.func91 (by kernel_rfl) rfl #[.int .i64 (m : Int), .int .i64 (c : Int)] rfl rfl (by (try simp only [List.map_toArray, List.map_cons, List.map_nil]); first | done | rfl) HG.out ?_; refine (HL.out HS1.out m c _ _ true rfl rfl (by omega) (by omega) b1 b2 HB.out).mono ?_; rintro e w' ⟨rfl, hS3⟩; refine ⟨_, rfl, ?_⟩))
        go_roundw
        case rel => exact ⟨i, c, rfl, by go_num, hi, by omega, by omega, ⟨hS3⟩, HI, ⟨.inr C3.out⟩⟩
        case measure => simp [intOf]; omega
      · have HB := Aside0.mk (show decide (R (A c) < R (A m)) = false from decide_eq_false c3)
        have C3 := Aside0.mk c3
        clear c3
        go_wp2_with (first | ((with_reducible refine gate_dst (N := 75) rfl ?_); refine goesI_ (some 75) rfl rfl Try.func91 (by kernel_rfl) rfl #[.int .i64 (m : Int), .int .i64 (c : Int)] rfl rfl (by (try simp only [List.map_toArray, List.map_cons, List.map_nil]); first | done | rfl) HG.out ?_; refine (HL.out HS1.out m c _ _ false rfl rfl (by omega) (by omega) b1 b2 HB.out).mono ?_; rintro e w' ⟨rfl, hS3⟩; refine ⟨_, rfl, ?_⟩))
        go_roundw
        case rel => exact ⟨c + 1, j, by go_num, rfl, by omega, by omega, hj, ⟨hS3⟩, ⟨.inr (by rw [show c + 1 - 1 = c by omega]; exact C3.out)⟩, HJ⟩
        case measure => simp [intOf]; omega
    · have d3 : decide ((i : Int) < (j : Int)) = false := decide_eq_false (by omega)
      have hij2 : i = j := by omega
      subst hij2
      have HQ1 : Aside0 (∀ p, a ≤ p → p < i → ¬ R (A p) < R (A m)) := ⟨fun k q1 q2 => by
        rcases HI.out with e | e
        · omega
        · have := sorted_R HP.out.s1 k (i - 1) q1 (by omega) (by omega)
          omega⟩
      have HQ2 : Aside0 (∀ q, i ≤ q → q < m → R (A q) < R (A m)) := ⟨fun q q1 q2 => by
        rcases HJ.out with e | e
        · omega
        · have := sorted_R HP.out.s1 i q hi q1 q2
          omega⟩
      go_wp2_with fail
      go_loopw [15] (fun u wr => ∃ (k : Nat) (A2 : Nat → Nat), u = .int .i64 k ∧ i ≤ k ∧ k ≤ m ∧ Aside0 (SortW w0 g n A2 wr) ∧ Aside0 (Dn R A A2 a m b k) ∧ Aside0 (Sw a b A A2)) (fun u _ => (intOf u).toNat)
      case atStart => exact ⟨m, A, rfl, hj, Nat.le_refl _, HS1, ⟨.start HP.out K2.out⟩, ⟨.refl _⟩⟩
      case round =>
        obtain ⟨k, A2, rfl, hk1, hk2, HS2, HU, HW⟩ := hrel
        by_cases c4 : i < k
        · have d4 : decide ((i : Int) < (k : Int)) = true := decide_eq_true (by omega)
          go_wp2_with (first | ((with_reducible refine gate_dst (N := 90) rfl ?_); refine goesI_ (some 90) rfl rfl Try.func92 (by kernel_rfl) rfl #[.int .i64 (k : Int), .int .i64 ((k : Int) - 1)] rfl rfl (by (try simp only [List.map_toArray, List.map_cons, List.map_nil]); first | done | rfl) HF.out ?_; refine (HC.out HS2.out k (k - 1) _ _ rfl (by omega) (by omega) (by omega)).mono ?_; rintro e w4 ⟨rfl, hS4⟩; refine ⟨_, rfl, ?_⟩))
          go_roundw
          case rel => exact ⟨k - 1, swp A2 k (k - 1), by go_num, by omega, by omega, ⟨hS4⟩, ⟨HU.out.next (by omega) (by omega) (HQ2.out (k - 1) (by omega) (by omega))⟩, ⟨.step k (k - 1) HW.out (by omega) (by omega)⟩⟩
          case measure => simp [intOf]; omega
        · have d4 : decide ((i : Int) < (k : Int)) = false := decide_eq_false (by omega)
          go_wp2
          refine bodyPost_ret (results_none rfl _ _ _) rfl ?_
          exact ⟨rfl, A2, HS2.out, HW.out, HU.out.done HP.out K2.out hk2 (fun p q1 q2 => Int.not_lt.mpr (HQ1.out p q1 (by omega)))⟩
set_option maxHeartbeats 4000000 in
set_option maxRecDepth 100000 in
theorem symMerge_c3a {w0 : World} {g n B h : Nat} {R : Nat → Int} (hR : RestW w0 g n B h R) (N : Nat) (ih : ∀ (A : Nat → Nat) (W : World) (a m b : Nat) (x y z : Int), x = a → y = m → z = b → SortW w0 g n A W → (∀ k, k < n → A k < n) → Pre R A a m b → a < m → m < b → b ≤ n → b - a ≤ N →
    Calls Try.prog 63 #[.iface 79 (rkV g n B), .int .i64 x, .int .i64 y, .int .i64 z] W fun e w' => e = .returned (.tuple #[]) ∧ ∃ A', SortW w0 g n A' w' ∧ Sw a b A A' ∧ Sorted R A' a b) (A : Nat → Nat) (W : World) (a m b : Nat) (hS : SortW w0 g n A W) (hA : ∀ k, k < n → A k < n) (hP : Pre R A a m b) (h1 : a < m) (h2 : m < b) (h3 : b ≤ n) (h4 : b - a ≤ N + 1) (k1 : ¬ m = a + 1) (k2 : ¬ b = m + 1) (mid : Nat) (hmid : (a + b) / 2 = mid) (k3 : mid < m) :
    Calls Try.prog 63 #[.iface 79 (rkV g n B), .int .i64 a, .int .i64 m, .int .i64 b] W fun e w' => e = .returned (.tuple #[]) ∧ ∃ A', SortW w0 g n A' w' ∧ Sw a b A A' ∧ Sorted R A' a b := by
  have hlt := hR.lt
  have HC : ∀ {A : Nat → Nat} {W : World} (hS : SortW w0 g n A W) (i j : Nat) (x y : Int) (hx : x = i) (hy : y = j) (hi : i < n) (hj : j < n), Calls Try.prog 92 #[rkV g n B, .int .i64 x, .int .i64 y] W fun e w' => e = .returned (.tuple #[]) ∧ SortW w0 g n (swp A i j) w' := fun hS i j x y hx hy hi hj => by subst hx hy; exact swap_calls hlt hS i j hi hj
  have HL : ∀ {A : Nat → Nat} {W : World} (hS : SortW w0 g n A W) (i j : Nat) (x y : Int) (bo : Bool) (hx : x = i) (hy : y = j) (hi : i < n) (hj : j < n) (hAi : A i < n) (hAj : A j < n) (hb : decide (R (A j) < R (A i)) = bo), Calls Try.prog 91 #[rkV g n B, .int .i64 x, .int .i64 y] W fun e w' => e = .returned (.bool bo) ∧ SortW w0 g n A w' := fun hS i j x y bo hx hy hi hj hAi hAj hb => by subst hx hy hb; exact less_calls hR hS i j hi hj hAi hAj
  have HT : ∀ {A : Nat → Nat} {W : World} (hS : SortW w0 g n A W) (a m b : Nat) (x y z : Int) (hx : x = a) (hy : y = m) (hz : z = b) (h1 : a < m) (h2 : m < b) (h3 : b ≤ n), Calls Try.prog 69 #[.iface 79 (rkV g n B), .int .i64 x, .int .i64 y, .int .i64 z] W fun e w' => e = .returned (.tuple #[]) ∧ SortW w0 g n (rot A a m b) w' ∧ Sw a b A (rot A a m b) := fun hS a m b x y z hx hy hz h1 h2 h3 => rotate_at hlt hS a m b x y z hx hy hz h1 h2 h3
  have hF := finds_swap g n B
  have hG := finds_less g n B
  generalize rkV g n B = rv at HC HL HT hF hG ih ⊢
  have HC := Aside0.mk @HC
  have HL := Aside0.mk @HL
  have HT := Aside0.mk @HT
  have HF := Aside0.mk hF
  have HG := Aside0.mk hG
  clear hF hG hR
  have HS := Aside0.mk hS
  have HA := Aside0.mk hA
  have HP := Aside0.mk hP
  clear hS hA hP
  have IH := Aside0.mk ih
  clear ih
  have d1 : ((m : Int) - (a : Int) == 1) = false := by simp; omega
  have d0 : ((b : Int) - (m : Int) == 1) = false := by simp; omega
  have hm1 : 2 * mid ≤ a + b := by omega
  have hm2 : a + b ≤ 2 * mid + 1 := by omega
  have hmI : ((a : Int) + (b : Int)) / 2 = (mid : Int) := by omega
  clear hmid
  obtain ⟨lo, hlo⟩ : ∃ lo, mid + m - b = lo := ⟨_, rfl⟩
  obtain ⟨hi, hhi⟩ : ∃ hi, hi = mid := ⟨_, rfl⟩
  have hloI : (mid : Int) + (m : Int) - (b : Int) = (lo : Int) := by omega
  have hlohi : lo ≤ hi := by omega
  have hal : a ≤ lo := by omega
  have d2 : decide ((mid : Int) < (m : Int)) = true := decide_eq_true (by omega)
  go_enter Try.func63, Try.ntmps63
  go_wp2_with fail
  go_loopw [18, 19] (fun u v wr => ∃ (s r : Nat), u = .int .i64 s ∧ v = .int .i64 r ∧ lo ≤ s ∧ s ≤ r ∧ r ≤ hi ∧ Aside0 (SortW w0 g n A wr) ∧ Aside0 (s = lo ∨ ¬ R (A (s - 1)) < R (A (mid + m - s))) ∧ Aside0 (r = hi ∨ R (A r) < R (A (mid + m - 1 - r)))) (fun u v _ => (intOf v).toNat - (intOf u).toNat)
  case atStart => exact ⟨lo, hi, by go_num, by go_num, Nat.le_refl _, by omega, Nat.le_refl _, HS, ⟨.inl rfl⟩, ⟨.inl rfl⟩⟩
  case round =>
    obtain ⟨s, r, rfl, rfl, hs, hsr, hr, HS1, HI, HJ⟩ := hrel
    by_cases c1 : s < r
    · have d3 : decide ((s : Int) < (r : Int)) = true := decide_eq_true (by omega)
      obtain ⟨c, hc⟩ : ∃ c, (s + r) / 2 = c := ⟨_, rfl⟩
      have hc1 : s ≤ c := by omega
      have hc2 : c < r := by omega
      have hcI : ((s : Int) + (r : Int)) / 2 = (c : Int) := by omega
      obtain ⟨e, he⟩ : ∃ e, mid + m - 1 - c = e := ⟨_, rfl⟩
      have heb : e < b := by omega
      have b1 : A e < n := HA.out e (by omega)
      have b2 : A c < n := HA.out c (by omega)
      have heI : (mid : Int) + (m : Int) - 1 - (c : Int) = (e : Int) := by omega
      have HE := Aside0.mk he
      clear hc he
      by_cases c3 : R (A c) < R (A e)
      · have HB := Aside0.mk (show decide (R (A c) < R (A e)) = true from decide_eq_true c3)
        have C3 := Aside0.mk c3
        clear c3
        go_wp2_with (first | ((with_reducible refine gate_dst (N := 125) rfl ?_); refine goesI_ (some 125) rfl rfl Try.func91 (by kernel_rfl) rfl #[.int .i64 (e : Int), .int .i64 (c : Int)] rfl rfl (by (try simp only [List.map_toArray, List.map_cons, List.map_nil]); first | done | rfl) HG.out ?_; refine (HL.out HS1.out e c _ _ true rfl rfl (by omega) (by omega) b1 b2 HB.out).mono ?_; rintro e w' ⟨rfl, hS3⟩; refine ⟨_, rfl, ?_⟩))
        go_roundw
        case rel => exact ⟨s, c, rfl, by go_num, hs, by omega, by omega, ⟨hS3⟩, HI, ⟨.inr (by rw [HE.out]; exact C3.out)⟩⟩
        case measure => simp [intOf]; omega
      · have HB := Aside0.mk (show decide (R (A c) < R (A e)) = false from decide_eq_false c3)
        have C3 := Aside0.mk c3
        clear c3
        go_wp2_with (first | ((with_reducible refine gate_dst (N := 125) rfl ?_); refine goesI_ (some 125) rfl rfl Try.func91 (by kernel_rfl) rfl #[.int .i64 (e : Int), .int .i64 (c : Int)] rfl rfl (by (try simp only [List.map_toArray, List.map_cons, List.map_nil]); first | done | rfl) HG.out ?_; refine (HL.out HS1.out e c _ _ false rfl rfl (by omega) (by omega) b1 b2 HB.out).mono ?_; rintro e w' ⟨rfl, hS3⟩; refine ⟨_, rfl, ?_⟩))
        go_roundw
        case rel => exact ⟨c + 1, r, by go_num, rfl, by omega, by omega, hr, ⟨hS3⟩, ⟨.inr (by rw [show c + 1 - 1 = c by omega, show mid + m - (c + 1) = mid + m - 1 - c by omega, HE.out]; exact C3.out)⟩, HJ⟩
        case measure => simp [intOf]; omega
    · have d3 : decide ((s : Int) < (r : Int)) = false := decide_eq_false (by omega)
      obtain rfl : s = r := by omega
      obtain ⟨en, hen⟩ : ∃ en, mid + m - s = en := ⟨_, rfl⟩
      have henI : (mid : Int) + (m : Int) - (s : Int) = (en : Int) := by omega
      have HCut : Aside0 (Cut3 R A a m b mid s) := ⟨⟨by omega, by omega, by omega, by omega, by omega, by
        rcases HI.out with e | e
        · omega
        · exact .inr (.inr e), by
        rcases HJ.out with e | e
        · omega
        · exact .inr (.inr (by rw [show mid + m - s - 1 = mid + m - 1 - s by omega]; exact e))⟩⟩
      have cs := HCut.out.sm
      have csm := HCut.out.smid
      have ca := HCut.out.sa
      have ce := HCut.out.eb
      have cme := HCut.out.me
      rw [hen] at ce cme
      have HEn := Aside0.mk hen
      clear hen
      go_upto_region 39 with fail
      go_cut [140] (fun v wc => v = .bool (decide (s < m ∧ m < en)) ∧ Aside0 (SortW w0 g n A wc))
      case first =>
        by_cases t1 : s < m
        · have t1' : decide ((s : Int) < (m : Int)) = true := decide_eq_true (by omega)
          by_cases t2 : m < en
          · have t2' : decide ((m : Int) < (en : Int)) = true := decide_eq_true (by omega)
            have T := Aside0.mk (show decide (s < m ∧ m < en) = true from decide_eq_true ⟨t1, t2⟩)
            go_wp2
            go_meet
            case rel => exact ⟨congrArg Value.bool T.out.symm, HS1⟩
          · have t2' : decide ((m : Int) < (en : Int)) = false := decide_eq_false (by omega)
            have T := Aside0.mk (show decide (s < m ∧ m < en) = false from decide_eq_false (fun h => t2 h.2))
            go_wp2
            go_meet
            case rel => exact ⟨congrArg Value.bool T.out.symm, HS1⟩
        · have t1' : decide ((s : Int) < (m : Int)) = false := decide_eq_false (by omega)
          have T := Aside0.mk (show decide (s < m ∧ m < en) = false from decide_eq_false (fun h => t1 h.1))
          go_wp2
          go_meet
          case rel => exact ⟨congrArg Value.bool T.out.symm, HS1⟩
      case rest =>
        obtain ⟨rfl, HS2⟩ := hcut
        go_upto_if 140 with fail
        go_cut [22] (fun v wc => v = .int .i64 en ∧ Aside0 (SortW w0 g n (rot A s m en) wc) ∧ Aside0 (Sw a b A (rot A s m en)))
        case first =>
          by_cases T : s < m ∧ m < en
          · have td : decide (s < m ∧ m < en) = true := decide_eq_true T
            go_wp2_with (first | (go_at_call 69; refine (HT.out HS2.out s m en _ _ _ rfl rfl rfl T.1 T.2 (by omega)).mono ?_; rintro e w' ⟨rfl, hS3, hW3⟩))
            go_meet
            case rel => exact ⟨rfl, ⟨hS3⟩, ⟨hW3.mono ca ce⟩⟩
          · have td : decide (s < m ∧ m < en) = false := decide_eq_false T
            have e0 : rot A s m en = A := by
              by_cases q : s = m
              · rw [q]; exact rot_triv1 A m en cme
              · rw [show en = m by omega]; exact rot_triv2 A s m cs
            have E0 := Aside0.mk e0
            clear e0
            go_wp2
            go_meet
            case rel => exact ⟨rfl, ⟨by rw [E0.out]; exact HS2.out⟩, ⟨by rw [E0.out]; exact .refl _⟩⟩
        case rest =>
          obtain ⟨rfl, HS3, HW3⟩ := hcut
          have hmb : mid < b := by omega
          have P1 := cut_pre1 HP.out HCut.out hmb
          have P2 := cut_pre2 HP.out HCut.out hmb
          have PX := cut_cross HP.out HCut.out hmb
          rw [HEn.out] at P1 P2 PX
          have HA3 : Aside0 (∀ k, k < n → rot A s m en k < n) := ⟨HW3.out.all (n := n) (Q := fun v => v < n) h3 HA.out⟩
          obtain ⟨A3, hA3⟩ : ∃ A3, rot A s m en = A3 := ⟨_, rfl⟩
          rw [hA3] at P1 P2 PX HA3 HS3 HW3
          clear hA3
          have HP1 := Aside0.mk P1
          have HP2 := Aside0.mk P2
          have HPX := Aside0.mk PX
          clear P1 P2 PX
          go_upto_region 41 with fail
          go_cut [153] (fun v wc => v = .bool (decide (a < s ∧ s < mid)) ∧ Aside0 (SortW w0 g n A3 wc))
          case first =>
            by_cases t1 : a < s
            · have t1' : decide ((a : Int) < (s : Int)) = true := decide_eq_true (by omega)
              by_cases t2 : s < mid
              · have t2' : decide ((s : Int) < (mid : Int)) = true := decide_eq_true (by omega)
                have T := Aside0.mk (show decide (a < s ∧ s < mid) = true from decide_eq_true ⟨t1, t2⟩)
                go_wp2
                go_meet
                case rel => exact ⟨congrArg Value.bool T.out.symm, HS3⟩
              · have t2' : decide ((s : Int) < (mid : Int)) = false := decide_eq_false (by omega)
                have T := Aside0.mk (show decide (a < s ∧ s < mid) = false from decide_eq_false (fun h => t2 h.2))
                go_wp2
                go_meet
                case rel => exact ⟨congrArg Value.bool T.out.symm, HS3⟩
            · have t1' : decide ((a : Int) < (s : Int)) = false := decide_eq_false (by omega)
              have T := Aside0.mk (show decide (a < s ∧ s < mid) = false from decide_eq_false (fun h => t1 h.1))
              go_wp2
              go_meet
              case rel => exact ⟨congrArg Value.bool T.out.symm, HS3⟩
          case rest =>
            obtain ⟨rfl, HS4⟩ := hcut
            go_upto_if 153 with fail
            go_cut [22] (fun v wc => v = .int .i64 en ∧ ∃ A4, Aside0 (SortW w0 g n A4 wc) ∧ Aside0 (Sw a mid A3 A4) ∧ Aside0 (Sorted R A4 a mid))
            case first =>
              by_cases T : a < s ∧ s < mid
              · have td : decide (a < s ∧ s < mid) = true := decide_eq_true T
                go_wp2_with (first | (go_at_call 63; refine (IH.out A3 _ a s mid _ _ _ rfl rfl rfl HS4.out HA3.out HP1.out T.1 T.2 (by omega) (by omega)).mono ?_; rintro e w' ⟨rfl, A4, hS5, hW5, hO5⟩))
                go_meet
                case rel => exact ⟨rfl, A4, ⟨hS5⟩, ⟨hW5⟩, ⟨hO5⟩⟩
              · have td : decide (a < s ∧ s < mid) = false := decide_eq_false T
                have hO : Aside0 (Sorted R A3 a mid) := ⟨by
                  by_cases q : s = a
                  · rw [← q]; exact HP1.out.s2
                  · rw [show mid = s by omega]; exact HP1.out.s1⟩
                go_wp2
                go_meet
                case rel => exact ⟨rfl, A3, HS4, ⟨.refl _⟩, hO⟩
            case rest =>
              obtain ⟨rfl, A4, HS5, HW5, HO5⟩ := hcut
              have HA4 : Aside0 (∀ k, k < n → A4 k < n) := ⟨HW5.out.all (n := n) (Q := fun v => v < n) (by omega) HA3.out⟩
              have HP4 : Aside0 (Pre R A4 mid en b) := ⟨by
                have o : ∀ k, mid ≤ k → A4 k = A3 k := fun k hk => HW5.out.out k (.inr hk)
                refine ⟨fun p q q1 q2 q3 => ?_, fun p q q1 q2 q3 => ?_, fun p q q1 q2 q3 q4 => ?_⟩
                · rw [o p q1, o q (by omega)]; exact HP2.out.s1 p q q1 q2 q3
                · rw [o p (by omega), o q (by omega)]; exact HP2.out.s2 p q q1 q2 q3
                · rw [o p q1, o q (by omega)]; exact HP2.out.x p q q1 q2 q3 q4⟩
              have HPX4 : Aside0 (∀ p q, a ≤ p → p < mid → mid ≤ q → q < b → ltR R (A4 p) (A4 q)) := ⟨fun p q q1 q2 q3 q4 => by
                rw [HW5.out.out q (.inr q3)]
                exact HW5.out.img (Q := fun v => ltR R v (A3 q)) (fun k r1 r2 => HPX.out k q r1 r2 q3 q4) p q1 q2⟩
              have HW4 : Aside0 (Sw a b A A4) := ⟨HW3.out.trans (HW5.out.mono (Nat.le_refl _) (by omega))⟩
              go_upto_region 43 with fail
              go_cut [166] (fun v wc => v = .bool (decide (mid < en ∧ en < b)) ∧ Aside0 (SortW w0 g n A4 wc))
              case first =>
                by_cases t1 : mid < en
                · have t1' : decide ((mid : Int) < (en : Int)) = true := decide_eq_true (by omega)
                  by_cases t2 : en < b
                  · have t2' : decide ((en : Int) < (b : Int)) = true := decide_eq_true (by omega)
                    have T := Aside0.mk (show decide (mid < en ∧ en < b) = true from decide_eq_true ⟨t1, t2⟩)
                    go_wp2
                    go_meet
                    case rel => exact ⟨congrArg Value.bool T.out.symm, HS5⟩
                  · have t2' : decide ((en : Int) < (b : Int)) = false := decide_eq_false (by omega)
                    have T := Aside0.mk (show decide (mid < en ∧ en < b) = false from decide_eq_false (fun h => t2 h.2))
                    go_wp2
                    go_meet
                    case rel => exact ⟨congrArg Value.bool T.out.symm, HS5⟩
                · have t1' : decide ((mid : Int) < (en : Int)) = false := decide_eq_false (by omega)
                  have T := Aside0.mk (show decide (mid < en ∧ en < b) = false from decide_eq_false (fun h => t1 h.1))
                  go_wp2
                  go_meet
                  case rel => exact ⟨congrArg Value.bool T.out.symm, HS5⟩
              case rest =>
                obtain ⟨rfl, HS6⟩ := hcut
                by_cases T : mid < en ∧ en < b
                · have td : decide (mid < en ∧ en < b) = true := decide_eq_true T
                  go_wp2_with (first | (go_at_call 63; refine (IH.out A4 _ mid en b _ _ _ rfl rfl rfl HS6.out HA4.out HP4.out T.1 T.2 h3 (by omega)).mono ?_; rintro e w' ⟨rfl, A5, hS7, hW7, hO7⟩))
                  go_end0
                  refine ⟨rfl, A5, hS7, HW4.out.trans (hW7.mono (by omega) (Nat.le_refl _)), sorted_join (c := mid) ?_ hO7 ?_⟩
                  · intro p q q1 q2 q3
                    rw [hW7.out p (.inl (by omega)), hW7.out q (.inl q3)]
                    exact HO5.out p q q1 q2 q3
                  · intro p q q1 q2 q3 q4
                    rw [hW7.out p (.inl q2)]
                    exact hW7.img (Q := fun v => ltR R (A4 p) v) (fun k r1 r2 => HPX4.out p k q1 q2 r1 r2) q q3 q4
                · have td : decide (mid < en ∧ en < b) = false := decide_eq_false T
                  have hO : Aside0 (Sorted R A4 mid b) := ⟨by
                    by_cases q : en = b
                    · rw [← q]; exact HP4.out.s1
                    · rw [show mid = en by omega]; exact HP4.out.s2⟩
                  go_wp2
                  go_end0
                  exact ⟨rfl, A4, HS6.out, HW4.out, sorted_join HO5.out hO.out HPX4.out⟩
set_option maxHeartbeats 4000000 in
set_option maxRecDepth 100000 in
theorem symMerge_c3b {w0 : World} {g n B h : Nat} {R : Nat → Int} (hR : RestW w0 g n B h R) (N : Nat) (ih : ∀ (A : Nat → Nat) (W : World) (a m b : Nat) (x y z : Int), x = a → y = m → z = b → SortW w0 g n A W → (∀ k, k < n → A k < n) → Pre R A a m b → a < m → m < b → b ≤ n → b - a ≤ N →
    Calls Try.prog 63 #[.iface 79 (rkV g n B), .int .i64 x, .int .i64 y, .int .i64 z] W fun e w' => e = .returned (.tuple #[]) ∧ ∃ A', SortW w0 g n A' w' ∧ Sw a b A A' ∧ Sorted R A' a b) (A : Nat → Nat) (W : World) (a m b : Nat) (hS : SortW w0 g n A W) (hA : ∀ k, k < n → A k < n) (hP : Pre R A a m b) (h1 : a < m) (h2 : m < b) (h3 : b ≤ n) (h4 : b - a ≤ N + 1) (k1 : ¬ m = a + 1) (k2 : ¬ b = m + 1) (mid : Nat) (hmid : (a + b) / 2 = mid) (k3 : ¬ mid < m) :
    Calls Try.prog 63 #[.iface 79 (rkV g n B), .int .i64 a, .int .i64 m, .int .i64 b] W fun e w' => e = .returned (.tuple #[]) ∧ ∃ A', SortW w0 g n A' w' ∧ Sw a b A A' ∧ Sorted R A' a b := by
  have hlt := hR.lt
  have HC : ∀ {A : Nat → Nat} {W : World} (hS : SortW w0 g n A W) (i j : Nat) (x y : Int) (hx : x = i) (hy : y = j) (hi : i < n) (hj : j < n), Calls Try.prog 92 #[rkV g n B, .int .i64 x, .int .i64 y] W fun e w' => e = .returned (.tuple #[]) ∧ SortW w0 g n (swp A i j) w' := fun hS i j x y hx hy hi hj => by subst hx hy; exact swap_calls hlt hS i j hi hj
  have HL : ∀ {A : Nat → Nat} {W : World} (hS : SortW w0 g n A W) (i j : Nat) (x y : Int) (bo : Bool) (hx : x = i) (hy : y = j) (hi : i < n) (hj : j < n) (hAi : A i < n) (hAj : A j < n) (hb : decide (R (A j) < R (A i)) = bo), Calls Try.prog 91 #[rkV g n B, .int .i64 x, .int .i64 y] W fun e w' => e = .returned (.bool bo) ∧ SortW w0 g n A w' := fun hS i j x y bo hx hy hi hj hAi hAj hb => by subst hx hy hb; exact less_calls hR hS i j hi hj hAi hAj
  have HT : ∀ {A : Nat → Nat} {W : World} (hS : SortW w0 g n A W) (a m b : Nat) (x y z : Int) (hx : x = a) (hy : y = m) (hz : z = b) (h1 : a < m) (h2 : m < b) (h3 : b ≤ n), Calls Try.prog 69 #[.iface 79 (rkV g n B), .int .i64 x, .int .i64 y, .int .i64 z] W fun e w' => e = .returned (.tuple #[]) ∧ SortW w0 g n (rot A a m b) w' ∧ Sw a b A (rot A a m b) := fun hS a m b x y z hx hy hz h1 h2 h3 => rotate_at hlt hS a m b x y z hx hy hz h1 h2 h3
  have hF := finds_swap g n B
  have hG := finds_less g n B
  generalize rkV g n B = rv at HC HL HT hF hG ih ⊢
  have HC := Aside0.mk @HC
  have HL := Aside0.mk @HL
  have HT := Aside0.mk @HT
  have HF := Aside0.mk hF
  have HG := Aside0.mk hG
  clear hF hG hR
  have HS := Aside0.mk hS
  have HA := Aside0.mk hA
  have HP := Aside0.mk hP
  clear hS hA hP
  have IH := Aside0.mk ih
  clear ih
  have d1 : ((m : Int) - (a : Int) == 1) = false := by simp; omega
  have d0 : ((b : Int) - (m : Int) == 1) = false := by simp; omega
  have hm1 : 2 * mid ≤ a + b := by omega
  have hm2 : a + b ≤ 2 * mid + 1 := by omega
  have hmI : ((a : Int) + (b : Int)) / 2 = (mid : Int) := by omega
  clear hmid
  obtain ⟨lo, hlo⟩ : ∃ lo, lo = a := ⟨_, rfl⟩
  obtain ⟨hi, hhi⟩ : ∃ hi, hi = m := ⟨_, rfl⟩
  have hlohi : lo ≤ hi := by omega
  have hal : a ≤ lo := by omega
  have hloI : (a : Int) = (lo : Int) := by omega
  have hhiI : (m : Int) = (hi : Int) := by omega
  have LO := Aside0.mk hloI
  have HIa := Aside0.mk hhiI
  clear hloI hhiI
  have d2 : decide ((mid : Int) < (m : Int)) = false := decide_eq_false (by omega)
  go_enter Try.func63, Try.ntmps63
  go_wp2_with fail
  go_loopw [18, 19] (fun u v wr => ∃ (s r : Nat), u = .int .i64 s ∧ v = .int .i64 r ∧ lo ≤ s ∧ s ≤ r ∧ r ≤ hi ∧ Aside0 (SortW w0 g n A wr) ∧ Aside0 (s = lo ∨ ¬ R (A (s - 1)) < R (A (mid + m - s))) ∧ Aside0 (r = hi ∨ R (A r) < R (A (mid + m - 1 - r)))) (fun u v _ => (intOf v).toNat - (intOf u).toNat)
  case atStart => exact ⟨lo, hi, by go_num, by go_num, Nat.le_refl _, by omega, Nat.le_refl _, HS, ⟨.inl rfl⟩, ⟨.inl rfl⟩⟩
  case round =>
    obtain ⟨s, r, rfl, rfl, hs, hsr, hr, HS1, HI, HJ⟩ := hrel
    by_cases c1 : s < r
    · have d3 : decide ((s : Int) < (r : Int)) = true := decide_eq_true (by omega)
      obtain ⟨c, hc⟩ : ∃ c, (s + r) / 2 = c := ⟨_, rfl⟩
      have hc1 : s ≤ c := by omega
      have hc2 : c < r := by omega
      have hcI : ((s : Int) + (r : Int)) / 2 = (c : Int) := by omega
      obtain ⟨e, he⟩ : ∃ e, mid + m - 1 - c = e := ⟨_, rfl⟩
      have heb : e < b := by omega
      have b1 : A e < n := HA.out e (by omega)
      have b2 : A c < n := HA.out c (by omega)
      have heI : (mid : Int) + (m : Int) - 1 - (c : Int) = (e : Int) := by omega
      have HE := Aside0.mk he
      clear hc he
      by_cases c3 : R (A c) < R (A e)
      · have HB := Aside0.mk (show decide (R (A c) < R (A e)) = true from decide_eq_true c3)
        have C3 := Aside0.mk c3
        clear c3
        go_wp2_with (first | ((with_reducible refine gate_dst (N := 125) rfl ?_); refine goesI_ (some 125) rfl rfl Try.func91 (by kernel_rfl) rfl #[.int .i64 (e : Int), .int .i64 (c : Int)] rfl rfl (by (try simp only [List.map_toArray, List.map_cons, List.map_nil]); first | done | rfl) HG.out ?_; refine (HL.out HS1.out e c _ _ true rfl rfl (by omega) (by omega) b1 b2 HB.out).mono ?_; rintro e w' ⟨rfl, hS3⟩; refine ⟨_, rfl, ?_⟩))
        go_roundw
        case rel => exact ⟨s, c, rfl, by go_num, hs, by omega, by omega, ⟨hS3⟩, HI, ⟨.inr (by rw [HE.out]; exact C3.out)⟩⟩
        case measure => simp [intOf]; omega
      · have HB := Aside0.mk (show decide (R (A c) < R (A e)) = false from decide_eq_false c3)
        have C3 := Aside0.mk c3
        clear c3
        go_wp2_with (first | ((with_reducible refine gate_dst (N := 125) rfl ?_); refine goesI_ (some 125) rfl rfl Try.func91 (by kernel_rfl) rfl #[.int .i64 (e : Int), .int .i64 (c : Int)] rfl rfl (by (try simp only [List.map_toArray, List.map_cons, List.map_nil]); first | done | rfl) HG.out ?_; refine (HL.out HS1.out e c _ _ false rfl rfl (by omega) (by omega) b1 b2 HB.out).mono ?_; rintro e w' ⟨rfl, hS3⟩; refine ⟨_, rfl, ?_⟩))
        go_roundw
        case rel => exact ⟨c + 1, r, by go_num, rfl, by omega, by omega, hr, ⟨hS3⟩, ⟨.inr (by rw [show c + 1 - 1 = c by omega, show mid + m - (c + 1) = mid + m - 1 - c by omega, HE.out]; exact C3.out)⟩, HJ⟩
        case measure => simp [intOf]; omega
    · have d3 : decide ((s : Int) < (r : Int)) = false := decide_eq_false (by omega)
      obtain rfl : s = r := by omega
      obtain ⟨en, hen⟩ : ∃ en, mid + m - s = en := ⟨_, rfl⟩
      have henI : (mid : Int) + (m : Int) - (s : Int) = (en : Int) := by omega
      have HCut : Aside0 (Cut3 R A a m b mid s) := ⟨⟨by omega, by omega, by omega, by omega, by omega, by
        rcases HI.out with e | e
        · omega
        · exact .inr (.inr e), by
        rcases HJ.out with e | e
        · omega
        · exact .inr (.inr (by rw [show mid + m - s - 1 = mid + m - 1 - s by omega]; exact e))⟩⟩
      have cs := HCut.out.sm
      have csm := HCut.out.smid
      have ca := HCut.out.sa
      have ce := HCut.out.eb
      have cme := HCut.out.me
      rw [hen] at ce cme
      have HEn := Aside0.mk hen
      clear hen
      go_upto_region 39 with fail
      go_cut [140] (fun v wc => v = .bool (decide (s < m ∧ m < en)) ∧ Aside0 (SortW w0 g n A wc))
      case first =>
        by_cases t1 : s < m
        · have t1' : decide ((s : Int) < (m : Int)) = true := decide_eq_true (by omega)
          by_cases t2 : m < en
          · have t2' : decide ((m : Int) < (en : Int)) = true := decide_eq_true (by omega)
            have T := Aside0.mk (show decide (s < m ∧ m < en) = true from decide_eq_true ⟨t1, t2⟩)
            go_wp2
            go_meet
            case rel => exact ⟨congrArg Value.bool T.out.symm, HS1⟩
          · have t2' : decide ((m : Int) < (en : Int)) = false := decide_eq_false (by omega)
            have T := Aside0.mk (show decide (s < m ∧ m < en) = false from decide_eq_false (fun h => t2 h.2))
            go_wp2
            go_meet
            case rel => exact ⟨congrArg Value.bool T.out.symm, HS1⟩
        · have t1' : decide ((s : Int) < (m : Int)) = false := decide_eq_false (by omega)
          have T := Aside0.mk (show decide (s < m ∧ m < en) = false from decide_eq_false (fun h => t1 h.1))
          go_wp2
          go_meet
          case rel => exact ⟨congrArg Value.bool T.out.symm, HS1⟩
      case rest =>
        obtain ⟨rfl, HS2⟩ := hcut
        go_upto_if 140 with fail
        go_cut [22] (fun v wc => v = .int .i64 en ∧ Aside0 (SortW w0 g n (rot A s m en) wc) ∧ Aside0 (Sw a b A (rot A s m en)))
        case first =>
          by_cases T : s < m ∧ m < en
          · have td : decide (s < m ∧ m < en) = true := decide_eq_true T
            go_wp2_with (first | (go_at_call 69; refine (HT.out HS2.out s m en _ _ _ rfl rfl rfl T.1 T.2 (by omega)).mono ?_; rintro e w' ⟨rfl, hS3, hW3⟩))
            go_meet
            case rel => exact ⟨rfl, ⟨hS3⟩, ⟨hW3.mono ca ce⟩⟩
          · have td : decide (s < m ∧ m < en) = false := decide_eq_false T
            have e0 : rot A s m en = A := by
              by_cases q : s = m
              · rw [q]; exact rot_triv1 A m en cme
              · rw [show en = m by omega]; exact rot_triv2 A s m cs
            have E0 := Aside0.mk e0
            clear e0
            go_wp2
            go_meet
            case rel => exact ⟨rfl, ⟨by rw [E0.out]; exact HS2.out⟩, ⟨by rw [E0.out]; exact .refl _⟩⟩
        case rest =>
          obtain ⟨rfl, HS3, HW3⟩ := hcut
          have hmb : mid < b := by omega
          have P1 := cut_pre1 HP.out HCut.out hmb
          have P2 := cut_pre2 HP.out HCut.out hmb
          have PX := cut_cross HP.out HCut.out hmb
          rw [HEn.out] at P1 P2 PX
          have HA3 : Aside0 (∀ k, k < n → rot A s m en k < n) := ⟨HW3.out.all (n := n) (Q := fun v => v < n) h3 HA.out⟩
          obtain ⟨A3, hA3⟩ : ∃ A3, rot A s m en = A3 := ⟨_, rfl⟩
          rw [hA3] at P1 P2 PX HA3 HS3 HW3
          clear hA3
          have HP1 := Aside0.mk P1
          have HP2 := Aside0.mk P2
          have HPX := Aside0.mk PX
          clear P1 P2 PX
          go_upto_region 41 with fail
          go_cut [153] (fun v wc => v = .bool (decide (a < s ∧ s < mid)) ∧ Aside0 (SortW w0 g n A3 wc))
          case first =>
            by_cases t1 : a < s
            · have t1' : decide ((a : Int) < (s : Int)) = true := decide_eq_true (by omega)
              by_cases t2 : s < mid
              · have t2' : decide ((s : Int) < (mid : Int)) = true := decide_eq_true (by omega)
                have T := Aside0.mk (show decide (a < s ∧ s < mid) = true from decide_eq_true ⟨t1, t2⟩)
                go_wp2
                go_meet
                case rel => exact ⟨congrArg Value.bool T.out.symm, HS3⟩
              · have t2' : decide ((s : Int) < (mid : Int)) = false := decide_eq_false (by omega)
                have T := Aside0.mk (show decide (a < s ∧ s < mid) = false from decide_eq_false (fun h => t2 h.2))
                go_wp2
                go_meet
                case rel => exact ⟨congrArg Value.bool T.out.symm, HS3⟩
            · have t1' : decide ((a : Int) < (s : Int)) = false := decide_eq_false (by omega)
              have T := Aside0.mk (show decide (a < s ∧ s < mid) = false from decide_eq_false (fun h => t1 h.1))
              go_wp2
              go_meet
              case rel => exact ⟨congrArg Value.bool T.out.symm, HS3⟩
          case rest =>
            obtain ⟨rfl, HS4⟩ := hcut
            go_upto_if 153 with fail
            go_cut [22] (fun v wc => v = .int .i64 en ∧ ∃ A4, Aside0 (SortW w0 g n A4 wc) ∧ Aside0 (Sw a mid A3 A4) ∧ Aside0 (Sorted R A4 a mid))
            case first =>
              by_cases T : a < s ∧ s < mid
              · have td : decide (a < s ∧ s < mid) = true := decide_eq_true T
                go_wp2_with (first | (go_at_call 63; refine (IH.out A3 _ a s mid _ _ _ rfl rfl rfl HS4.out HA3.out HP1.out T.1 T.2 (by omega) (by omega)).mono ?_; rintro e w' ⟨rfl, A4, hS5, hW5, hO5⟩))
                go_meet
                case rel => exact ⟨rfl, A4, ⟨hS5⟩, ⟨hW5⟩, ⟨hO5⟩⟩
              · have td : decide (a < s ∧ s < mid) = false := decide_eq_false T
                have hO : Aside0 (Sorted R A3 a mid) := ⟨by
                  by_cases q : s = a
                  · rw [← q]; exact HP1.out.s2
                  · rw [show mid = s by omega]; exact HP1.out.s1⟩
                go_wp2
                go_meet
                case rel => exact ⟨rfl, A3, HS4, ⟨.refl _⟩, hO⟩
            case rest =>
              obtain ⟨rfl, A4, HS5, HW5, HO5⟩ := hcut
              have HA4 : Aside0 (∀ k, k < n → A4 k < n) := ⟨HW5.out.all (n := n) (Q := fun v => v < n) (by omega) HA3.out⟩
              have HP4 : Aside0 (Pre R A4 mid en b) := ⟨by
                have o : ∀ k, mid ≤ k → A4 k = A3 k := fun k hk => HW5.out.out k (.inr hk)
                refine ⟨fun p q q1 q2 q3 => ?_, fun p q q1 q2 q3 => ?_, fun p q q1 q2 q3 q4 => ?_⟩
                · rw [o p q1, o q (by omega)]; exact HP2.out.s1 p q q1 q2 q3
                · rw [o p (by omega), o q (by omega)]; exact HP2.out.s2 p q q1 q2 q3
                · rw [o p q1, o q (by omega)]; exact HP2.out.x p q q1 q2 q3 q4⟩
              have HPX4 : Aside0 (∀ p q, a ≤ p → p < mid → mid ≤ q → q < b → ltR R (A4 p) (A4 q)) := ⟨fun p q q1 q2 q3 q4 => by
                rw [HW5.out.out q (.inr q3)]
                exact HW5.out.img (Q := fun v => ltR R v (A3 q)) (fun k r1 r2 => HPX.out k q r1 r2 q3 q4) p q1 q2⟩
              have HW4 : Aside0 (Sw a b A A4) := ⟨HW3.out.trans (HW5.out.mono (Nat.le_refl _) (by omega))⟩
              go_upto_region 43 with fail
              go_cut [166] (fun v wc => v = .bool (decide (mid < en ∧ en < b)) ∧ Aside0 (SortW w0 g n A4 wc))
              case first =>
                by_cases t1 : mid < en
                · have t1' : decide ((mid : Int) < (en : Int)) = true := decide_eq_true (by omega)
                  by_cases t2 : en < b
                  · have t2' : decide ((en : Int) < (b : Int)) = true := decide_eq_true (by omega)
                    have T := Aside0.mk (show decide (mid < en ∧ en < b) = true from decide_eq_true ⟨t1, t2⟩)
                    go_wp2
                    go_meet
                    case rel => exact ⟨congrArg Value.bool T.out.symm, HS5⟩
                  · have t2' : decide ((en : Int) < (b : Int)) = false := decide_eq_false (by omega)
                    have T := Aside0.mk (show decide (mid < en ∧ en < b) = false from decide_eq_false (fun h => t2 h.2))
                    go_wp2
                    go_meet
                    case rel => exact ⟨congrArg Value.bool T.out.symm, HS5⟩
                · have t1' : decide ((mid : Int) < (en : Int)) = false := decide_eq_false (by omega)
                  have T := Aside0.mk (show decide (mid < en ∧ en < b) = false from decide_eq_false (fun h => t1 h.1))
                  go_wp2
                  go_meet
                  case rel => exact ⟨congrArg Value.bool T.out.symm, HS5⟩
              case rest =>
                obtain ⟨rfl, HS6⟩ := hcut
                by_cases T : mid < en ∧ en < b
                · have td : decide (mid < en ∧ en < b) = true := decide_eq_true T
                  go_wp2_with (first | (go_at_call 63; refine (IH.out A4 _ mid en b _ _ _ rfl rfl rfl HS6.out HA4.out HP4.out T.1 T.2 h3 (by omega)).mono ?_; rintro e w' ⟨rfl, A5, hS7, hW7, hO7⟩))
                  go_end0
                  refine ⟨rfl, A5, hS7, HW4.out.trans (hW7.mono (by omega) (Nat.le_refl _)), sorted_join (c := mid) ?_ hO7 ?_⟩
                  · intro p q q1 q2 q3
                    rw [hW7.out p (.inl (by omega)), hW7.out q (.inl q3)]
                    exact HO5.out p q q1 q2 q3
                  · intro p q q1 q2 q3 q4
                    rw [hW7.out p (.inl q2)]
                    exact hW7.img (Q := fun v => ltR R (A4 p) v) (fun k r1 r2 => HPX4.out p k q1 q2 r1 r2) q q3 q4
                · have td : decide (mid < en ∧ en < b) = false := decide_eq_false T
                  have hO : Aside0 (Sorted R A4 mid b) := ⟨by
                    by_cases q : en = b
                    · rw [← q]; exact HP4.out.s1
                    · rw [show mid = en by omega]; exact HP4.out.s2⟩
                  go_wp2
                  go_end0
                  exact ⟨rfl, A4, HS6.out, HW4.out, sorted_join HO5.out hO.out HPX4.out⟩
theorem symMerge_at {w0 : World} {g n B h : Nat} {R : Nat → Int} (hR : RestW w0 g n B h R) (N : Nat) : ∀ (A : Nat → Nat) (W : World) (a m b : Nat) (x y z : Int), x = a → y = m → z = b → SortW w0 g n A W → (∀ k, k < n → A k < n) → Pre R A a m b → a < m → m < b → b ≤ n → b - a ≤ N →
    Calls Try.prog 63 #[.iface 79 (rkV g n B), .int .i64 x, .int .i64 y, .int .i64 z] W fun e w' => e = .returned (.tuple #[]) ∧ ∃ A', SortW w0 g n A' w' ∧ Sw a b A A' ∧ Sorted R A' a b := by
  induction N with
  | zero => intro A W a m b x y z _ _ _ _ _ _ h1 h2 _ h4; omega
  | succ N ih =>
    intro A W a m b x y z hx hy hz hS hA hP h1 h2 h3 h4
    subst hx hy hz
    by_cases k1 : m = a + 1
    · exact symMerge_c1 hR A W a m b hS hA hP h1 h2 h3 k1
    · by_cases k2 : b = m + 1
      · exact symMerge_c2 hR A W a m b hS hA hP h1 h2 h3 k1 k2
      · by_cases k3 : (a + b) / 2 < m
        · exact symMerge_c3a hR N ih A W a m b hS hA hP h1 h2 h3 h4 k1 k2 _ rfl k3
        · exact symMerge_c3b hR N ih A W a m b hS hA hP h1 h2 h3 h4 k1 k2 _ rfl k3
def Blk (R : Nat → Int) (A : Nat → Nat) (l r : Nat) : Prop := Sorted R A l r ∧ ∀ k, l ≤ k → k < r → l ≤ A k ∧ A k < r
theorem Blk.empty {R : Nat → Int} {A : Nat → Nat} {l r : Nat} (h : r ≤ l) : Blk R A l r := ⟨fun p q h1 h2 h3 => by omega, fun k h1 h2 => by omega⟩
theorem Blk.congr {R : Nat → Int} {A A' : Nat → Nat} {l r : Nat} (h : Blk R A l r) (e : ∀ k, l ≤ k → k < r → A' k = A k) : Blk R A' l r :=
  ⟨fun p q h1 h2 h3 => by rw [e p h1 (by omega), e q (by omega) h3]; exact h.1 p q h1 h2 h3, fun k h1 h2 => by rw [e k h1 h2]; exact h.2 k h1 h2⟩
theorem Blk.pre {R : Nat → Int} {A : Nat → Nat} {a m b : Nat} (h1 : Blk R A a m) (h2 : Blk R A m b) : Pre R A a m b :=
  ⟨h1.1, h2.1, fun p q p1 p2 q1 q2 => by have := h1.2 p p1 p2; have := h2.2 q q1 q2; omega⟩
theorem Blk.join {R : Nat → Int} {A A' : Nat → Nat} {a m b : Nat} (h1 : Blk R A a m) (h2 : Blk R A m b) (ham : a ≤ m) (hmb : m ≤ b) (hw : Sw a b A A') (hs : Sorted R A' a b) : Blk R A' a b :=
  ⟨hs, hw.img (Q := fun v => a ≤ v ∧ v < b) (fun k k1 k2 => by
    by_cases c : k < m
    · have := h1.2 k k1 c; omega
    · have := h2.2 k (by omega) k2; omega)⟩
structure Mix (R : Nat → Int) (A : Nat → Nat) (s n t : Nat) : Prop where
  low : ∀ u, u < t → Blk R A (min (u * (2 * s)) n) (min ((u + 1) * (2 * s)) n)
  high : ∀ u, 2 * t ≤ u → Blk R A (min (u * s) n) (min ((u + 1) * s) n)
def AllBlk (R : Nat → Int) (A : Nat → Nat) (s n : Nat) : Prop := ∀ u, Blk R A (min (u * s) n) (min ((u + 1) * s) n)
theorem mul_facts (s t : Nat) : 2 * t * s = t * (2 * s) ∧ (2 * t + 1) * s = t * (2 * s) + s ∧ (2 * t + 1 + 1) * s = t * (2 * s) + 2 * s ∧ (t + 1) * (2 * s) = t * (2 * s) + 2 * s := by
  have e : 2 * t * s = t * (2 * s) := by rw [Nat.mul_comm 2 t, Nat.mul_assoc]
  refine ⟨e, ?_, ?_, ?_⟩
  · rw [Nat.succ_mul, e]
  · rw [Nat.succ_mul, Nat.succ_mul, e]; omega
  · rw [Nat.succ_mul]
theorem Mix.start {R : Nat → Int} {A : Nat → Nat} {s n : Nat} (h : AllBlk R A s n) : Mix R A s n 0 := ⟨fun u hu => absurd hu (by omega), fun u _ => h u⟩
theorem Mix.blocks {R : Nat → Int} {A : Nat → Nat} {s n t : Nat} (h : Mix R A s n t) : Blk R A (min (t * (2 * s)) n) (min (t * (2 * s) + s) n) ∧ Blk R A (min (t * (2 * s) + s) n) (min (t * (2 * s) + 2 * s) n) := by
  obtain ⟨e1, e2, e3, e4⟩ := mul_facts s t
  have h1 := h.high (2 * t) (Nat.le_refl _)
  have h2 := h.high (2 * t + 1) (by omega)
  rw [e1, e2] at h1
  rw [e2, e3] at h2
  exact ⟨h1, h2⟩
theorem Mix.step {R : Nat → Int} {A A' : Nat → Nat} {s n t : Nat} (h : Mix R A s n t) (hw : Sw (min (t * (2 * s)) n) (min (t * (2 * s) + 2 * s) n) A A') (hs : Blk R A' (min (t * (2 * s)) n) (min (t * (2 * s) + 2 * s) n)) : Mix R A' s n (t + 1) := by
  obtain ⟨e1, e2, e3, e4⟩ := mul_facts s t
  refine ⟨fun u hu => ?_, fun u hu => ?_⟩
  · by_cases c : u = t
    · subst c; rw [e4]; exact hs
    · have hle : (u + 1) * (2 * s) ≤ t * (2 * s) := Nat.mul_le_mul_right _ (by omega)
      exact (h.low u (by omega)).congr fun k k1 k2 => hw.out k (.inl (by omega))
  · have hle : (2 * t + 1 + 1) * s ≤ u * s := Nat.mul_le_mul_right _ (by omega)
    rw [e3] at hle
    exact (h.high u (by omega)).congr fun k k1 k2 => hw.out k (.inr (by omega))
theorem Mix.all {R : Nat → Int} {A : Nat → Nat} {s n t : Nat} (h : Mix R A s n t) (hn : n ≤ t * (2 * s)) : AllBlk R A (2 * s) n := by
  intro u
  by_cases c : u < t
  · exact h.low u c
  · have hle : t * (2 * s) ≤ u * (2 * s) := Nat.mul_le_mul_right _ (by omega)
    exact Blk.empty (by omega)
theorem AllBlk.done {R : Nat → Int} {A : Nat → Nat} {s n : Nat} (h : AllBlk R A s n) (hs : n ≤ s) : Sorted R A 0 n := by
  have := (h 0).1
  rw [Nat.zero_mul, Nat.zero_add, Nat.one_mul, show min 0 n = 0 by omega, show min s n = n by omega] at this
  exact this
set_option maxHeartbeats 4000000 in
set_option maxRecDepth 100000 in
theorem stable_calls {w0 : World} {g n B h : Nat} {R : Nat → Int} {A : Nat → Nat} {W : World} (hR : RestW w0 g n B h R) (hS : SortW w0 g n A W) (hid : ∀ k, k < n → A k = k) (hn : n < 1000000) :
    Calls Try.prog 54 #[.iface 79 (rkV g n B), .int .i64 n] W fun e w' => e = .returned (.tuple #[]) ∧ ∃ A', SortW w0 g n A' w' ∧ Sw 0 n A A' ∧ Sorted R A' 0 n := by
  have HI0 : ∀ {A : Nat → Nat} {W : World} (hS : SortW w0 g n A W) (hA : ∀ k, k < n → A k < n) (a b : Nat) (x y : Int) (hx : x = a) (hy : y = b) (h1 : a ≤ b) (h2 : b ≤ n) (hinc : ∀ p q, a ≤ p → p < q → q < b → A p < A q), Calls Try.prog 62 #[.iface 79 (rkV g n B), .int .i64 x, .int .i64 y] W fun e w' => e = .returned (.tuple #[]) ∧ ∃ A', SortW w0 g n A' w' ∧ Sw a b A A' ∧ Sorted R A' a b := fun hS hA a b x y hx hy h1 h2 hinc => insertion_at hR hS hA a b x y hx hy h1 h2 hinc
  have HM0 : ∀ (A : Nat → Nat) (W : World) (a m b : Nat) (x y z : Int), x = a → y = m → z = b → SortW w0 g n A W → (∀ k, k < n → A k < n) → Pre R A a m b → a < m → m < b → b ≤ n → Calls Try.prog 63 #[.iface 79 (rkV g n B), .int .i64 x, .int .i64 y, .int .i64 z] W fun e w' => e = .returned (.tuple #[]) ∧ ∃ A', SortW w0 g n A' w' ∧ Sw a b A A' ∧ Sorted R A' a b := fun A W a m b x y z hx hy hz hS hA hP h1 h2 h3 => symMerge_at hR (b - a) A W a m b x y z hx hy hz hS hA hP h1 h2 h3 (Nat.le_refl _)
  generalize rkV g n B = rv at HI0 HM0
  have HI := Aside0.mk @HI0
  have HM := Aside0.mk HM0
  have HS := Aside0.mk hS
  have HID := Aside0.mk hid
  clear hS hR hid HI0 HM0
  go_enter Try.func54, Try.ntmps54
  go_wp2
  go_loopw [5, 6] (fun u v wr => ∃ (t : Nat) (A1 : Nat → Nat), u = .int .i64 ((t * 20 : Nat) : Int) ∧ v = .int .i64 ((t * 20 + 20 : Nat) : Int) ∧ t * 20 ≤ n ∧ Aside0 (SortW w0 g n A1 wr) ∧ Aside0 (Sw 0 n A A1) ∧ Aside0 (∀ u, u < t → Blk R A1 (u * 20) (u * 20 + 20)) ∧ Aside0 (∀ k, t * 20 ≤ k → k < n → A1 k = k)) (fun u _ _ => n - (intOf u).toNat)
  case atStart => exact ⟨0, A, by go_num, by go_num, by omega, HS, ⟨.refl _⟩, ⟨fun u hu => absurd hu (by omega)⟩, ⟨fun k _ hk => HID.out k hk⟩⟩
  case round =>
    obtain ⟨t, A1, rfl, rfl, ht, HS1, HW, HB, HK⟩ := hrel
    have hA1 : Aside0 (∀ k, k < n → A1 k < n) := ⟨HW.out.all (n := n) (Q := fun v => v < n) (Nat.le_refl _) (fun k hk => by rw [HID.out k hk]; exact hk)⟩
    by_cases c1 : t * 20 + 20 ≤ n
    · have d1 : decide (((t * 20 + 20 : Nat) : Int) ≤ (n : Int)) = true := decide_eq_true (by omega)
      have d1' : decide (((t : Int) * 20 + 20) ≤ (n : Int)) = true := decide_eq_true (by omega)
      go_wp2_with (first | (go_at_call 62; refine (HI.out HS1.out hA1.out (t * 20) (t * 20 + 20) _ _ (by omega) (by omega) (by omega) c1 (fun p q p1 p2 p3 => by rw [HK.out p p1 (by omega), HK.out q (by omega) (by omega)]; exact p2)).mono ?_; rintro e w' ⟨rfl, A2, hS2, hW2, hO2⟩))
      go_roundw
      case rel =>
        refine ⟨t + 1, A2, by go_num, by go_num, by omega, ⟨hS2⟩, ⟨HW.out.trans (hW2.mono (by omega) c1)⟩, ⟨fun u hu => ?_⟩, ⟨fun k k1 k2 => ?_⟩⟩
        · by_cases c : u = t
          · subst c
            exact ⟨hO2, hW2.img (Q := fun v => u * 20 ≤ v ∧ v < u * 20 + 20) (fun k k1 k2 => by rw [HK.out k k1 (by omega)]; exact ⟨k1, k2⟩)⟩
          · exact (HB.out u (by omega)).congr fun k k1 k2 => hW2.out k (.inl (by omega))
        · rw [hW2.out k (.inr (by omega))]; exact HK.out k (by omega) k2
      case measure => simp [intOf]; omega
    · have d1 : decide (((t * 20 + 20 : Nat) : Int) ≤ (n : Int)) = false := decide_eq_false (by omega)
      have d1' : decide (((t : Int) * 20 + 20) ≤ (n : Int)) = false := decide_eq_false (by omega)
      go_wp2_with (first | (go_at_call 62; refine (HI.out HS1.out hA1.out (t * 20) n _ _ (by omega) rfl ht (Nat.le_refl _) (fun p q p1 p2 p3 => by rw [HK.out p p1 (by omega), HK.out q (by omega) (by omega)]; exact p2)).mono ?_; rintro e w' ⟨rfl, A2, hS2, hW2, hO2⟩))
      have HAll : Aside0 (AllBlk R A2 20 n) := ⟨fun u => by
        by_cases c : u < t
        · have e1 : min (u * 20) n = u * 20 := by omega
          have e2 : min ((u + 1) * 20) n = u * 20 + 20 := by omega
          rw [e1, e2]
          exact (HB.out u c).congr fun k k1 k2 => hW2.out k (.inl (by omega))
        · by_cases c2 : u = t
          · subst c2
            have e1 : min (u * 20) n = u * 20 := by omega
            have e2 : min ((u + 1) * 20) n = n := by omega
            rw [e1, e2]
            exact ⟨hO2, hW2.img (Q := fun v => u * 20 ≤ v ∧ v < n) (fun k k1 k2 => by rw [HK.out k k1 k2]; exact ⟨k1, k2⟩)⟩
          · exact Blk.empty (by omega)⟩
      have HS2 := Aside0.mk hS2
      have HW2 := Aside0.mk (HW.out.trans (hW2.mono (by omega) (Nat.le_refl _)))
      clear hS2 hW2 hO2
      go_loopw [4] (fun v wr => ∃ (s : Nat) (A3 : Nat → Nat), v = .int .i64 s ∧ 20 ≤ s ∧ s ≤ 2000040 ∧ Aside0 (SortW w0 g n A3 wr) ∧ Aside0 (Sw 0 n A A3) ∧ Aside0 (AllBlk R A3 s n)) (fun v _ => n - (intOf v).toNat)
      case atStart => exact ⟨20, A2, rfl, Nat.le_refl _, by omega, HS2, HW2, HAll⟩
      case round =>
        obtain ⟨s, A3, rfl, hs, hs2, HS3, HW3, HAll3⟩ := hrel
        by_cases c2 : s < n
        · have d2 : decide ((s : Int) < (n : Int)) = true := decide_eq_true (by omega)
          go_wp2_with fail
          go_loopw [5, 6] (fun u v wr => ∃ (t l : Nat) (A4 : Nat → Nat), u = .int .i64 (l : Int) ∧ v = .int .i64 ((l + 2 * s : Nat) : Int) ∧ l ≤ n ∧ Aside0 (t * (2 * s) = l) ∧ Aside0 (SortW w0 g n A4 wr) ∧ Aside0 (Sw 0 n A A4) ∧ Aside0 (Mix R A4 s n t)) (fun u _ _ => n - (intOf u).toNat)
          case atStart => exact ⟨0, 0, A3, by go_num, by go_num, by omega, ⟨by omega⟩, HS3, HW3, ⟨.start HAll3.out⟩⟩
          case round =>
            obtain ⟨t, l, A4, rfl, rfl, hl, HL, HS4, HW4, HM4⟩ := hrel
            have hA4 : Aside0 (∀ k, k < n → A4 k < n) := ⟨HW4.out.all (n := n) (Q := fun v => v < n) (Nat.le_refl _) (fun k hk => by rw [HID.out k hk]; exact hk)⟩
            obtain ⟨B1, B2⟩ := HM4.out.blocks
            rw [HL.out] at B1 B2
            have HB1 := Aside0.mk B1
            have HB2 := Aside0.mk B2
            clear B1 B2
            have emul := (mul_facts s t).2.2.2
            rw [HL.out] at emul
            have HE := Aside0.mk emul
            clear emul
            by_cases c3 : l + 2 * s ≤ n
            · have d3 : decide (((l + 2 * s : Nat) : Int) ≤ (n : Int)) = true := decide_eq_true (by omega)
              have d3' : decide (((l : Int) + 2 * (s : Int)) ≤ (n : Int)) = true := decide_eq_true (by omega)
              have P := HB1.out.pre HB2.out
              rw [show min l n = l by omega, show min (l + s) n = l + s by omega, show min (l + 2 * s) n = l + 2 * s by omega] at P
              have HP := Aside0.mk P
              clear P
              go_wp2_with (first | (go_at_call 63; refine (HM.out A4 _ l (l + s) (l + 2 * s) _ _ _ rfl (by omega) (by omega) HS4.out hA4.out HP.out (by omega) (by omega) c3).mono ?_; rintro e w' ⟨rfl, A5, hS5, hW5, hO5⟩))
              have HN : Aside0 (Mix R A5 s n (t + 1)) := ⟨HM4.out.step (by rw [HL.out, show min l n = l by omega, show min (l + 2 * s) n = l + 2 * s by omega]; exact hW5) (by
                rw [HL.out, show min l n = l by omega, show min (l + 2 * s) n = l + 2 * s by omega]
                have b1 := HB1.out
                have b2 := HB2.out
                rw [show min l n = l by omega, show min (l + s) n = l + s by omega] at b1
                rw [show min (l + s) n = l + s by omega, show min (l + 2 * s) n = l + 2 * s by omega] at b2
                exact b1.join b2 (by omega) (by omega) hW5 hO5)⟩
              go_roundw
              case rel => exact ⟨t + 1, l + 2 * s, A5, by go_num, by go_num, c3, HE, ⟨hS5⟩, ⟨HW4.out.trans (hW5.mono (by omega) c3)⟩, HN⟩
              case measure => simp [intOf]; omega
            · have d3 : decide (((l + 2 * s : Nat) : Int) ≤ (n : Int)) = false := decide_eq_false (by omega)
              have d3' : decide (((l : Int) + 2 * (s : Int)) ≤ (n : Int)) = false := decide_eq_false (by omega)
              by_cases c4 : l + s < n
              · have d4 : decide ((l : Int) + (s : Int) < (n : Int)) = true := decide_eq_true (by omega)
                have P := HB1.out.pre HB2.out
                rw [show min l n = l by omega, show min (l + s) n = l + s by omega, show min (l + 2 * s) n = n by omega] at P
                have HP := Aside0.mk P
                clear P
                go_wp2_with (first | (go_at_call 63; refine (HM.out A4 _ l (l + s) n _ _ _ rfl (by omega) rfl HS4.out hA4.out HP.out (by omega) c4 (Nat.le_refl _)).mono ?_; rintro e w' ⟨rfl, A5, hS5, hW5, hO5⟩))
                have HN : Aside0 (AllBlk R A5 (2 * s) n) := ⟨(HM4.out.step (A' := A5) (by rw [HL.out, show min l n = l by omega, show min (l + 2 * s) n = n by omega]; exact hW5) (by
                  rw [HL.out, show min l n = l by omega, show min (l + 2 * s) n = n by omega]
                  have b1 := HB1.out
                  have b2 := HB2.out
                  rw [show min l n = l by omega, show min (l + s) n = l + s by omega] at b1
                  rw [show min (l + s) n = l + s by omega, show min (l + 2 * s) n = n by omega] at b2
                  exact b1.join b2 (by omega) (by omega) hW5 hO5)).all (by rw [HE.out]; omega)⟩
                go_roundw
                case rel => exact ⟨2 * s, A5, by go_num, by omega, by omega, ⟨hS5⟩, ⟨HW4.out.trans (hW5.mono (by omega) (Nat.le_refl _))⟩, HN⟩
                case measure => simp [intOf]; omega
              · have d4 : decide ((l : Int) + (s : Int) < (n : Int)) = false := decide_eq_false (by omega)
                have HN : Aside0 (AllBlk R A4 (2 * s) n) := ⟨(HM4.out.step (A' := A4) (.refl _) (by
                  rw [HL.out, show min l n = l by omega, show min (l + 2 * s) n = n by omega]
                  have b1 := HB1.out
                  rw [show min l n = l by omega, show min (l + s) n = n by omega] at b1
                  exact b1)).all (by rw [HE.out]; omega)⟩
                go_wp2_with fail
                go_roundw
                case rel => exact ⟨2 * s, A4, by go_num, by omega, by omega, HS4, HW4, HN⟩
                case measure => simp [intOf]; omega
        · have d2 : decide ((s : Int) < (n : Int)) = false := decide_eq_false (by omega)
          go_wp2
          go_end0
          exact ⟨rfl, A3, HS3.out, HW3.out, HAll3.out.done (by omega)⟩
set_option maxHeartbeats 4000000 in
set_option maxRecDepth 100000 in
theorem Stable_calls {w0 : World} {g n B h : Nat} {R : Nat → Int} {A : Nat → Nat} {W : World} (hR : RestW w0 g n B h R) (hS : SortW w0 g n A W) (hid : ∀ k, k < n → A k = k) (hn : n < 1000000) :
    Calls Try.prog 43 #[.iface 79 (rkV g n B)] W fun e w' => e = .returned (.tuple #[]) ∧ ∃ A', SortW w0 g n A' w' ∧ Sw 0 n A A' ∧ Sorted R A' 0 n := by
  have HN0 : ∀ {W : World} (hS : SortW w0 g n A W), Calls Try.prog 90 #[rkV g n B] W fun e w' => e = .returned (.int .i64 n) ∧ SortW w0 g n A w' := fun hS => len_calls hS
  have HT0 : ∀ {W : World} (hS : SortW w0 g n A W), Calls Try.prog 54 #[.iface 79 (rkV g n B), .int .i64 n] W fun e w' => e = .returned (.tuple #[]) ∧ ∃ A', SortW w0 g n A' w' ∧ Sw 0 n A A' ∧ Sorted R A' 0 n := fun hS => stable_calls hR hS hid hn
  have hF := finds_len g n B
  generalize rkV g n B = rv at HN0 HT0 hF
  have HN := Aside0.mk @HN0
  have HT := Aside0.mk @HT0
  have HF := Aside0.mk hF
  have HS := Aside0.mk hS
  clear hS hR hid HN0 HT0 hF
  go_enter Try.func43, Try.ntmps43
  go_wp2_with (first
    | ((with_reducible refine gate_dst (N := 4) rfl ?_); refine goesI_ (some 4) rfl rfl Try.func90 (by kernel_rfl) rfl #[] rfl rfl (by (try simp only [List.map_toArray, List.map_cons, List.map_nil]); first | done | rfl) HF.out ?_; refine (HN.out HS.out).mono ?_; rintro e w' ⟨rfl, hS2⟩; refine ⟨_, rfl, ?_⟩)
    | (go_at_call 54; refine (HT.out hS2).mono ?_; rintro e w3 ⟨rfl, A5, hS5, hW5, hO5⟩))
  go_end0
  exact ⟨rfl, A5, hS5, hW5, hO5⟩
def sumN (f : Nat → Nat) : Nat → Nat
  | 0 => 0
  | n + 1 => sumN f n + f n
theorem sumN_congr {f f' : Nat → Nat} {n : Nat} (h : ∀ k, k < n → f' k = f k) : sumN f' n = sumN f n := by
  induction n with
  | zero => rfl
  | succ n ih => simp only [sumN]; rw [ih (fun k hk => h k (by omega)), h n (by omega)]
theorem sumN_upd {f f' : Nat → Nat} {i : Nat} (h : ∀ k, k ≠ i → f' k = f k) (n : Nat) (hi : i < n) : sumN f' n + f i = sumN f n + f' i := by
  induction n with
  | zero => omega
  | succ n ih =>
    simp only [sumN]
    by_cases c : i = n
    · subst c
      rw [sumN_congr (f := f) (f' := f') (fun k hk => h k (by omega))]
      omega
    · have := ih (by omega)
      rw [h n (fun e => c e.symm)]
      omega
theorem sumN_swp (F A : Nat → Nat) (n i j : Nat) (hi : i < n) (hj : j < n) : sumN (fun k => F (swp A i j k)) n = sumN (fun k => F (A k)) n := by
  by_cases e : i = j
  · subst e
    refine sumN_congr fun k _ => ?_
    by_cases c : k = i
    · subst c; simp only [swp_is1 A (show k = k from rfl)]
    · simp only [swp_is3 A c c]
  · have h1 := sumN_upd (f := fun k => F (A k)) (f' := fun k => if k = i then F (A j) else F (A k)) (i := i) (fun k hk => by simp only [if_neg hk]) n hi
    have h2 := sumN_upd (f := fun k => if k = i then F (A j) else F (A k)) (f' := fun k => F (swp A i j k)) (i := j) (fun k hk => by
      by_cases c : k = i
      · simp only [swp_is1 A c, if_pos c]
      · simp only [swp_is3 A c hk, if_neg c]) n hj
    simp only [if_pos, swp_is2 A (fun h => e h.symm) rfl, if_neg (fun h => e h.symm : ¬ j = i)] at h1 h2
    omega
theorem sumN_sw {a b n : Nat} {A A' : Nat → Nat} (h : Sw a b A A') (hb : b ≤ n) (F : Nat → Nat) : sumN (fun k => F (A' k)) n = sumN (fun k => F (A k)) n := by
  induction h with
  | refl => rfl
  | step i j _ hi hj ih => rw [sumN_swp F _ n i j (by omega) (by omega), ih]
def rank (R : Nat → Int) (n i : Nat) : Nat := sumN (fun k => if R i < R k ∨ R k = R i ∧ k < i then 1 else 0) n
theorem sumN_below (n p : Nat) (hp : p ≤ n) : sumN (fun k => if k < p then 1 else 0) n = p := by
  induction n with
  | zero => simp only [sumN]; omega
  | succ n ih =>
    simp only [sumN]
    by_cases c : p = n + 1
    · subst c
      rw [sumN_congr (f := fun k => if k < n then 1 else 0) (fun k hk => by rw [if_pos (by omega), if_pos hk]), if_pos (by omega)]
      have : sumN (fun k => if k < n then 1 else 0) n = n := by
        clear ih hp
        have : ∀ m, m ≤ n → sumN (fun k => if k < n then 1 else 0) m = m := by
          intro m
          induction m with
          | zero => intro _; rfl
          | succ m im => intro hm; simp only [sumN]; rw [im (by omega), if_pos (by omega)]
        exact this n (Nat.le_refl _)
      omega
    · rw [ih (by omega), if_neg (by omega)]; omega
theorem rank_at {R : Nat → Int} {n : Nat} {A A' : Nat → Nat} (hid : ∀ k, k < n → A k = k) (hw : Sw 0 n A A') (hs : Sorted R A' 0 n) (p : Nat) (hp : p < n) : rank R n (A' p) = p := by
  unfold rank
  have h1 := sumN_sw hw (Nat.le_refl n) (fun k => if R (A' p) < R k ∨ R k = R (A' p) ∧ k < A' p then 1 else 0)
  rw [sumN_congr (f := fun k => if R (A' p) < R k ∨ R k = R (A' p) ∧ k < A' p then 1 else 0) (f' := fun k => if R (A' p) < R (A k) ∨ R (A k) = R (A' p) ∧ A k < A' p then 1 else 0) (fun k hk => by simp only [hid k hk])] at h1
  rw [← h1, sumN_congr (f := fun k => if k < p then 1 else 0), sumN_below n p (by omega)]
  intro k hk
  by_cases c : k < p
  · rw [if_pos c, if_pos]
    have := hs k p (Nat.zero_le _) c hp
    unfold ltR at this; exact this
  · rw [if_neg c, if_neg]
    by_cases d : k = p
    · subst d; omega
    · have := hs p k (Nat.zero_le _) (by omega) hk
      unfold ltR at this; omega
theorem sw_onto {n : Nat} {A A' : Nat → Nat} (hid : ∀ k, k < n → A k = k) (hw : Sw 0 n A A') (i : Nat) (hi : i < n) : ∃ p, p < n ∧ A' p = i := by
  have h1 := sumN_sw hw (Nat.le_refl n) (fun v => if v = i then 1 else 0)
  have h2 : ∀ m, m ≤ n → (∀ p, p < m → A' p ≠ i) → sumN (fun k => if A' k = i then 1 else 0) m = 0 := by
    intro m
    induction m with
    | zero => intro _ _; rfl
    | succ m im => intro hm h; simp only [sumN]; rw [im (by omega) (fun p hp => h p (by omega)), if_neg (h m (by omega))]
  have h3 : ∀ m, i < m → m ≤ n → 1 ≤ sumN (fun k => if A k = i then 1 else 0) m := by
    intro m
    induction m with
    | zero => intro h _; omega
    | succ m im =>
      intro h hm
      simp only [sumN]
      by_cases c : i = m
      · rw [if_pos (by rw [hid m (by omega)]; exact c.symm)]; omega
      · have := im (by omega) (by omega); omega
  by_cases c : ∃ p, p < n ∧ A' p = i
  · exact c
  · have e1 := h2 n (Nat.le_refl _) (fun p hp e => c ⟨p, hp, e⟩)
    have e2 := h3 n hi (Nat.le_refl _)
    omega
def shW (c : Int) (l : List Int) : List Int := if c = 0 then l.map (fun _ => 1) else l
def shSum (c : Int) (l : List Int) : Int := if c = 0 then l.length else c
def shQ (total sum : Int) (ws : List Int) (i : Nat) : Int := total * ws.getD i 0 / sum
def shR (total sum : Int) (ws : List Int) (i : Nat) : Int := total * ws.getD i 0 % sum
def shLeft (total sum : Int) (ws : List Int) : Nat → Int
  | 0 => total
  | i + 1 => shLeft total sum ws i - shQ total sum ws i
def shOut (total sum : Int) (ws : List Int) : List Int := (List.range ws.length).map fun i => shQ total sum ws i + if (rank (shR total sum ws) ws.length i : Int) < shLeft total sum ws ws.length then 1 else 0
def shOk (k : Nat) (total sum : Int) (ws : List Int) (i : Nat) : Bool :=
  decide (exact_MulDiv.f k (IntKind.u64.wrap total) (IntKind.u64.wrap (ws.getD i 0)) (IntKind.u64.wrap sum) 0 = some (shQ total sum ws i, 0)) && decide (exact_MulMod.f k (IntKind.u64.wrap total) (IntKind.u64.wrap (ws.getD i 0)) (IntKind.u64.wrap sum) = some (shR total sum ws i)) && decide (0 ≤ shQ total sum ws i) && decide (shQ total sum ws i ≤ 1000000000000)
def shAll (k : Nat) (total sum : Int) (ws : List Int) : Bool := (List.range ws.length).all (shOk k total sum ws) && decide (ws.length ≤ 1000) && decide (0 ≤ total) && decide (total ≤ 1000000000000) && decide (shLeft total sum ws ws.length ≤ ws.length)
def apportion_Share.f (k : Nat) (total : Int) (l : List Int) : Option (List Int × Int) :=
  (apportion_check.f k total l).bind fun c => if c.2 = 0 ∧ 0 < l.length then (if shAll k total (shSum c.1 l) (shW c.1 l) = true then some (shOut total (shSum c.1 l) (shW c.1 l), 0) else none) else some ([], c.2)
def RowAt (W : World) (g n : Nat) (t : TypeId) (f : Nat → Value) : Prop := ∃ cur : Array Value, cur.size = n ∧ W.heap[g]? = some (.cells cur t (0, 0)) ∧ ∀ i, i < n → cur[i]? = some (f i)
theorem RowAt.cell {W : World} {g n : Nat} {t : TypeId} {f : Nat → Value} (h : RowAt W g n t f) (i : Nat) (hi : i < n) : W.cell? ⟨g, i, none⟩ = some (f i) := by
  obtain ⟨cur, hs, hb, hc⟩ := h
  exact (blk_cell hb i).trans (hc i hi)
theorem RowAt.free {W : World} {g n : Nat} {t : TypeId} {f : Nat → Value} (h : RowAt W g n t f) (i : Nat) : W.frozen? ⟨g, i, none⟩ = false := by
  obtain ⟨cur, hs, hb, hc⟩ := h
  exact blk_frozen hb i
theorem RowAt.below {W W1 : World} {g n : Nat} {t : TypeId} {f : Nat → Value} (h : RowAt W g n t f) (hb : Below W.heap.size W W1) : RowAt W1 g n t f := by
  obtain ⟨cur, hs, hc, hr⟩ := h
  exact ⟨cur, hs, blk_below hc hb, hr⟩
theorem RowAt.far {W : World} {g n : Nat} {t : TypeId} {f : Nat → Value} (h : RowAt W g n t f) {p : Addr} (hp : g ≠ p.block) (u : Value) : RowAt (W.setCell p u) g n t f := by
  obtain ⟨cur, hs, hc, hr⟩ := h
  exact ⟨cur, hs, blk_far hc hp u, hr⟩
theorem RowAt.set {W : World} {g n : Nat} {t : TypeId} {f : Nat → Value} (h : RowAt W g n t f) (i : Nat) (hi : i < n) (u : Value) : RowAt (W.setCell ⟨g, i, none⟩ u) g n t (fun k => if k = i then u else f k) := by
  obtain ⟨cur, hs, hc, hr⟩ := h
  refine ⟨_, by simp [hs], blk_set hc i u, fun k hk => ?_⟩
  by_cases e : i = k
  · subst e
    rw [Array.getElem?_setIfInBounds_self_of_lt (by omega)]; exact congrArg some (if_pos rfl).symm
  · rw [Array.getElem?_setIfInBounds_ne e, hr k hk]; exact congrArg some (if_neg (fun h => e (Eq.symm h))).symm
theorem RowAt.congr {W : World} {g n : Nat} {t : TypeId} {f f' : Nat → Value} (h : RowAt W g n t f) (e : ∀ k, k < n → f' k = f k) : RowAt W g n t f' := by
  obtain ⟨cur, hs, hc, hr⟩ := h
  exact ⟨cur, hs, hc, fun i hi => by rw [hr i hi, e i hi]⟩
theorem RowAt.drewN {W : World} {g n : Nat} {t : TypeId} {f : Nat → Value} (h : RowAt W g n t f) (m : Nat) : RowAt (W.drewN m) g n t f := h
structure LW (w0 : World) (gs gr gb go n : Nat) (S R O : Nat → Int) (W : World) : Prop where
  rs : RowAt W gs n 3 (fun i => .int .i64 (S i))
  rr : RowAt W gr n 73 (fun i => .int .u64 (R i))
  rb : RowAt W gb 1 72 (fun _ => .slice (some ⟨gr, 0, none⟩) n n)
  ro : RowAt W go n 3 (fun i => .int .i64 (O i))
  bel : Below w0.heap.size w0 W
structure LN (w0 : World) (gs gr gb go : Nat) : Prop where
  s : w0.heap.size ≤ gs
  r : w0.heap.size ≤ gr
  b : w0.heap.size ≤ gb
  o : w0.heap.size ≤ go
  sr : gs ≠ gr
  sb : gs ≠ gb
  so : gs ≠ go
  rb : gr ≠ gb
  ro : gr ≠ go
  bo : gb ≠ go
theorem LW.below {w0 W W1 : World} {gs gr gb go n : Nat} {S R O : Nat → Int} (h : LW w0 gs gr gb go n S R O W) (hb : Below W.heap.size W W1) : LW w0 gs gr gb go n S R O W1 :=
  ⟨h.rs.below hb, h.rr.below hb, h.rb.below hb, h.ro.below hb, below_step h.bel hb⟩
theorem LW.drewN {w0 W : World} {gs gr gb go n : Nat} {S R O : Nat → Int} (h : LW w0 gs gr gb go n S R O W) (m : Nat) : LW w0 gs gr gb go n S R O (W.drewN m) :=
  ⟨h.rs, h.rr, h.rb, h.ro, pw_below_drewN h.bel m⟩
def upd (f : Nat → Int) (i : Nat) (v : Int) : Nat → Int := fun k => if k = i then v else f k
theorem upd_val (q : IntKind) (f : Nat → Int) (i : Nat) (v : Int) (k : Nat) : Value.int q (upd f i v k) = if k = i then .int q v else .int q (f k) := by unfold upd; split <;> rfl
theorem LW.setS {w0 W : World} {gs gr gb go n : Nat} {S R O : Nat → Int} (N : LN w0 gs gr gb go) (h : LW w0 gs gr gb go n S R O W) (i : Nat) (hi : i < n) (v : Int) : LW w0 gs gr gb go n (upd S i v) R O (W.setCell ⟨gs, i, none⟩ (.int .i64 v)) :=
  ⟨(h.rs.set i hi _).congr (fun k _ => upd_val _ _ _ _ _), h.rr.far (p := ⟨gs, i, none⟩) N.sr.symm _, h.rb.far (p := ⟨gs, i, none⟩) N.sb.symm _, h.ro.far (p := ⟨gs, i, none⟩) N.so.symm _, below_set h.bel N.s⟩
theorem LW.setR {w0 W : World} {gs gr gb go n : Nat} {S R O : Nat → Int} (N : LN w0 gs gr gb go) (h : LW w0 gs gr gb go n S R O W) (i : Nat) (hi : i < n) (v : Int) : LW w0 gs gr gb go n S (upd R i v) O (W.setCell ⟨gr, i, none⟩ (.int .u64 v)) :=
  ⟨h.rs.far (p := ⟨gr, i, none⟩) N.sr _, (h.rr.set i hi _).congr (fun k _ => upd_val _ _ _ _ _), h.rb.far (p := ⟨gr, i, none⟩) N.rb.symm _, h.ro.far (p := ⟨gr, i, none⟩) N.ro.symm _, below_set h.bel N.r⟩
theorem LW.setO {w0 W : World} {gs gr gb go n : Nat} {S R O : Nat → Int} (N : LN w0 gs gr gb go) (h : LW w0 gs gr gb go n S R O W) (i : Nat) (hi : i < n) (v : Int) : LW w0 gs gr gb go n S R (upd O i v) (W.setCell ⟨go, i, none⟩ (.int .i64 v)) :=
  ⟨h.rs.far (p := ⟨go, i, none⟩) N.so _, h.rr.far (p := ⟨go, i, none⟩) N.ro _, h.rb.far (p := ⟨go, i, none⟩) N.bo _, (h.ro.set i hi _).congr (fun k _ => upd_val _ _ _ _ _), below_set h.bel N.o⟩
theorem make_ints (n : Nat) (hn : n ≤ 1000) (w : World) : (Instr.makeSlice 26 (.int .i64 n) (.int .i64 n)).run Try.prog w = .ok (.slice (some ⟨w.heap.size, 0, none⟩) n n) (w.alloc (.cells (madeCells (Value.int .i64 0).cells n) 3)) := by
  have h := info3
  cases hi : Try.prog.info? 3 with
  | none => rw [hi] at h; simp at h
  | some i =>
  rw [hi] at h
  simp only [Option.map_some, Option.some.injEq, Prod.mk.injEq] at h
  have := run_makeSlice w 26 3 i _ Try.underlying26 hi h.1 .i64 .i64 n n (by omega) (Int.le_refl _) (by rw [h.2.1]; simp; omega) (by rw [h.2.2]; omega) (by omega)
  rw [h.2.1] at this
  simpa using this
theorem share_info : (Try.prog.info? 73).map (fun i => (i.zero, i.size, i.bytes)) = some (some (.int .u64 0), 1, 8) := by kernel_rfl
theorem make_u64s (n : Nat) (hn : n ≤ 1000) (w : World) : (Instr.makeSlice 72 (.int .i64 n) (.int .i64 n)).run Try.prog w = .ok (.slice (some ⟨w.heap.size, 0, none⟩) n n) (w.alloc (.cells (madeCells (Value.int .u64 0).cells n) 73)) := by
  have h := share_info
  cases hi : Try.prog.info? 73 with
  | none => rw [hi] at h; simp at h
  | some i =>
  rw [hi] at h
  simp only [Option.map_some, Option.some.injEq, Prod.mk.injEq] at h
  have := run_makeSlice w 72 73 i _ Try.underlying72 hi h.1 .i64 .i64 n n (by omega) (Int.le_refl _) (by rw [h.2.1]; simp; omega) (by rw [h.2.2]; omega) (by omega)
  rw [h.2.1] at this
  simpa using this
theorem madeCells_at (q : IntKind) (n i : Nat) (hi : i < n) : (madeCells (Value.int q 0).cells n)[i]? = some (.int q 0) := by
  simp [madeCells, Value.cells, hi, Nat.mod_one]
set_option maxHeartbeats 4000000 in
set_option maxRecDepth 100000 in
theorem share_nil (k : Nat) (a0 : Int) (A1 : Option Addr) (c1 : Nat) (l1 : List Int) (s e : Int) (w : World) (hr1 : Kd.C (Kd.int .i64) w A1 l1.length l1) (hc1 : l1.length ≤ c1) (h : apportion_check.f k a0 l1 = some (s, e)) (hz : ¬ (e = 0 ∧ 0 < l1.length)) :
    Calls Try.prog 31 #[.int .i64 a0, .slice A1 l1.length c1] w fun e' w' => ∃ v0_ : Value, e' = .returned (.tuple #[v0_, .int .i64 e]) ∧ Kd.R (Kd.int .i64) 3 w' w.heap.size (fun _ => True) v0_ [] ∧ Below w.heap.size w w' := by
  have HB := Aside0.mk (Below.refl w.heap.size w)
  have HR1 := Aside0.mk hr1
  have HC1 := Aside0.mk hc1
  have HF := Aside0.mk h
  by_cases he : e = 0
  · have hl : l1.length = 0 := by omega
    have hl2 : ((l1.length : Int) == 0) = true := beq_iff_eq.mpr (by omega)
    have he2 : (e != 0) = false := bne_eq_false_iff_eq.mpr he
    have HZ := Aside0.mk hl
    have HE := Aside0.mk he
    clear hz hl hr1 hc1 h he
    go_enter Try.func31, Try.ntmps31
    go_wp2_with (first | (go_at_call 40; refine (apportion_check.calls k a0 A1 c1 l1 s e _ HR1.out HC1.out HF.out).mono ?_; rintro e1 w1 ⟨rfl, ⟨m1, rfl⟩⟩))
    go_ret2
    exact ⟨_, rfl, Kd.R_nil _ _ _ _ _, by repeat (first | (with_reducible first | exact HB.out | apply below_alloc | apply pw_below_drewN | apply below_drew1) | exact HB.out)⟩
  · have he2 : (e != 0) = true := bne_iff_ne.mpr he
    clear hz hr1 hc1 h he
    go_enter Try.func31, Try.ntmps31
    go_wp2_with (first | (go_at_call 40; refine (apportion_check.calls k a0 A1 c1 l1 s e _ HR1.out HC1.out HF.out).mono ?_; rintro e1 w1 ⟨rfl, ⟨m1, rfl⟩⟩))
    go_ret2
    exact ⟨_, rfl, Kd.R_nil _ _ _ _ _, by repeat (first | (with_reducible first | exact HB.out | apply below_alloc | apply pw_below_drewN | apply below_drew1) | exact HB.out)⟩
theorem RowAt.made (W : World) (q : IntKind) (n : Nat) (t : TypeId) : RowAt (W.alloc (.cells (madeCells (Value.int q 0).cells n) t)) W.heap.size n t (fun _ => .int q 0) := by
  refine ⟨_, ?_, blk_new W _, fun i hi => madeCells_at q n i hi⟩
  simp [madeCells, Value.cells]
theorem RowAt.row {W : World} {g n base : Nat} {f : Nat → Int} (h : RowAt W g n 3 (fun i => .int .i64 (f i))) (hg : base ≤ g) (hn : n ≤ 1000) : Kd.R (Kd.int .i64) 3 W base (fun _ => True) (.slice (some ⟨g, 0, none⟩) n n) ((List.range n).map f) := by
  obtain ⟨cur, hs, hb, hc⟩ := h
  have el : cur.toList = (List.range n).map (fun i => Value.int .i64 (f i)) := by
    apply List.ext_getElem?
    intro i
    by_cases hi : i < n
    · rw [Array.getElem?_toList, hc i hi]; simp [hi]
    · rw [Array.getElem?_toList]; simp [hs, hi]
  refine ⟨fun _ _ => trivial, (List.range n).map (fun i => Value.int .i64 (f i)), ⟨by simp [Kd.int, Kd.scalar], .inr ⟨g, n, cur, by simp, hg, hb, by simp, by simp [maxLen]; omega, by simp [Kd.int, Kd.scalar, hs], ?_⟩⟩, ?_⟩
  · rw [el]; simp [Kd.int, Kd.scalar]; exact List.take_of_length_le (by simp)
  · refine ⟨by simp [Kd.int, Kd.scalar], fun j p hj => ?_⟩
    have hj2 : j < n := by
      have := (List.getElem?_eq_some_iff.mp hj).1
      simpa using this
    rw [List.getElem?_map, List.getElem?_range hj2] at hj
    simp only [Option.map_some, Option.some.injEq] at hj
    show ((((List.range n).map (fun i => Value.int .i64 (f i))).drop (j * 1)).take 1) = [Value.int .i64 p]
    apply List.ext_getElem?
    intro i
    cases i with
    | zero => rw [List.getElem?_take, if_pos (by omega), List.getElem?_drop]; simp [hj2, hj]
    | succ i => rw [List.getElem?_take, if_neg (by omega)]; simp
theorem LW.sorted {w0 W W' : World} {gs gr gb go n : Nat} {S R : Nat → Int} {A A' : Nat → Nat} (N : LN w0 gs gr gb go) (h : LW w0 gs gr gb go n S R (fun p => A p) W) (hS : SortW W go n A' W') : LW w0 gs gr gb go n S R (fun p => A' p) W' := by
  have far : ∀ {g t f}, g ≠ go → RowAt W g n t f → RowAt W' g n t f := by
    intro g t f hg hr
    obtain ⟨cur, hs, hb, hc⟩ := hr
    exact ⟨cur, hs, (hS.keep.2 g (blk_lt hb) hg (by simp)).trans hb, hc⟩
  have farb : RowAt W' gb 1 72 (fun _ => .slice (some ⟨gr, 0, none⟩) n n) := by
    obtain ⟨cur, hs, hb, hc⟩ := h.rb
    exact ⟨cur, hs, (hS.keep.2 gb (blk_lt hb) N.bo (by simp)).trans hb, hc⟩
  obtain ⟨cur, hs, hb, hc⟩ := hS.row
  exact ⟨far N.so h.rs, far N.ro h.rr, farb, ⟨cur, hs, hb, hc⟩, ⟨hS.os.trans h.bel.os, hS.tape.trans h.bel.tape, hS.output.trans h.bel.output, Nat.le_trans h.bel.size hS.keep.1, fun k hk => (hS.keep.2 k (Nat.lt_of_lt_of_le hk h.bel.size) (by have := N.o; omega) (by simp)).trans (h.bel.block k hk)⟩⟩
theorem LW.sort0 {w0 W : World} {gs gr gb go n : Nat} {S R O : Nat → Int} (h : LW w0 gs gr gb go n S R O W) (hO : ∀ p, p < n → O p = p) : SortW W go n (fun p => p) W := by
  obtain ⟨cur, hs, hb, hc⟩ := h.ro
  exact ⟨⟨cur, hs, hb, fun i hi => (hc i hi).trans (congrArg (fun z => some (Value.int .i64 z)) (hO i hi))⟩, KeepBut.refl _ _ _, rfl, rfl, rfl⟩
theorem LW.rest0 {w0 W : World} {gs gr gb go n : Nat} {S R O : Nat → Int} (N : LN w0 gs gr gb go) (h : LW w0 gs gr gb go n S R O W) (hn : n ≤ 1000) : RestW W go n gb gr R :=
  ⟨h.rb.cell 0 (by omega), fun k hk => h.rr.cell k hk, N.bo, N.ro, by omega⟩
theorem shLeft_lo (total sum : Int) (ws : List Int) : ∀ i, (∀ k, k < i → 0 ≤ shQ total sum ws k ∧ shQ total sum ws k ≤ 1000000000000) → shLeft total sum ws i ≤ total ∧ total - i * 1000000000000 ≤ shLeft total sum ws i
  | 0, _ => by simp [shLeft]
  | i + 1, h => by
    have := shLeft_lo total sum ws i (fun k hk => h k (by omega))
    have := h i (by omega)
    simp only [shLeft]
    omega
theorem upd_self (f : Nat → Int) (i : Nat) (v : Int) : upd f i v i = v := if_pos rfl
theorem rank_congr {R R1 : Nat → Int} {n : Nat} (h : ∀ p, p < n → R1 p = R p) (i : Nat) (hi : i < n) : rank R1 n i = rank R n i := by
  unfold rank
  exact sumN_congr fun k hk => by rw [h i hi, h k hk]
theorem heap_size_alloc (w : World) (o : Obj) : (w.alloc o).heap.size = w.heap.size + 1 := by first | exact Array.size_push _ | (unfold World.alloc; simp)
theorem LN.start (w : World) : LN w w.heap.size (w.heap.size + 1) (w.heap.size + 1 + 1) (w.heap.size + 1 + 1 + 1) := by
  constructor <;> omega
theorem LW.start (w : World) (m n : Nat) : LW w w.heap.size (w.heap.size + 1) (w.heap.size + 1 + 1) (w.heap.size + 1 + 1 + 1) n (fun _ => 0) (fun _ => 0) (fun _ => 0) (((((w.drewN m).alloc (Obj.cells (madeCells #[Value.int IntKind.i64 0] n) 3)).alloc (Obj.cells (madeCells #[Value.int IntKind.u64 0] n) 73)).alloc (Obj.cells #[Value.slice (some { block := w.heap.size + 1, off := 0 }) n n] 72)).alloc (Obj.cells (madeCells #[Value.int IntKind.i64 0] n) 3)) := by
  have z1 := heap_size_alloc (w.drewN m) (Obj.cells (madeCells #[Value.int IntKind.i64 0] n) 3)
  have z2 := heap_size_alloc ((w.drewN m).alloc (Obj.cells (madeCells #[Value.int IntKind.i64 0] n) 3)) (Obj.cells (madeCells #[Value.int IntKind.u64 0] n) 73)
  have z3 := heap_size_alloc (((w.drewN m).alloc (Obj.cells (madeCells #[Value.int IntKind.i64 0] n) 3)).alloc (Obj.cells (madeCells #[Value.int IntKind.u64 0] n) 73)) (Obj.cells #[Value.slice (some { block := w.heap.size + 1, off := 0 }) n n] 72)
  have z0 : (w.drewN m).heap.size = w.heap.size := rfl
  rw [z0] at z1
  rw [z1] at z2
  rw [z2] at z3
  have a1 := RowAt.made (w.drewN m) .i64 n 3
  have a2 := RowAt.made ((w.drewN m).alloc (Obj.cells (madeCells #[Value.int IntKind.i64 0] n) 3)) .u64 n 73
  have a4 := RowAt.made ((((w.drewN m).alloc (Obj.cells (madeCells #[Value.int IntKind.i64 0] n) 3)).alloc (Obj.cells (madeCells #[Value.int IntKind.u64 0] n) 73)).alloc (Obj.cells #[Value.slice (some { block := w.heap.size + 1, off := 0 }) n n] 72)) .i64 n 3
  have a3 : RowAt ((((w.drewN m).alloc (Obj.cells (madeCells #[Value.int IntKind.i64 0] n) 3)).alloc (Obj.cells (madeCells #[Value.int IntKind.u64 0] n) 73)).alloc (Obj.cells #[Value.slice (some { block := w.heap.size + 1, off := 0 }) n n] 72)) (w.heap.size + 1 + 1) 1 72 (fun _ => .slice (some ⟨w.heap.size + 1, 0, none⟩) n n) := by
    refine ⟨_, ?_, by rw [← z2]; exact blk_new _ _, fun i hi => ?_⟩
    · rfl
    · obtain rfl : i = 0 := by omega
      rfl
  rw [z0] at a1
  rw [z1] at a2
  rw [z3] at a4
  exact ⟨((a1.below (below_alloc (Below.refl _ _) _)).below (below_alloc (Below.refl _ _) _)).below (below_alloc (Below.refl _ _) _), (a2.below (below_alloc (Below.refl _ _) _)).below (below_alloc (Below.refl _ _) _), a3.below (below_alloc (Below.refl _ _) _), a4, by repeat (first | exact Below.refl _ _ | apply below_alloc | apply pw_below_drewN)⟩
set_option maxHeartbeats 8000000 in
set_option maxRecDepth 100000 in
theorem share_zero (k : Nat) (a0 : Int) (A1 : Option Addr) (c1 : Nat) (l1 : List Int) (w : World) (hr1 : Kd.C (Kd.int .i64) w A1 l1.length l1) (hc1 : l1.length ≤ c1) (h : apportion_check.f k a0 l1 = some (0, 0)) (hl : 0 < l1.length) (hn : l1.length ≤ 1000) (Q R L : Nat → Int)
    (hQ : ∀ i : Nat, i < l1.length → exact_MulDiv.f k (IntKind.u64.wrap a0) (IntKind.u64.wrap 1) (IntKind.u64.wrap (l1.length : Int)) 0 = some (Q i, 0)) (hR : ∀ i : Nat, i < l1.length → exact_MulMod.f k (IntKind.u64.wrap a0) (IntKind.u64.wrap 1) (IntKind.u64.wrap (l1.length : Int)) = some (R i)) (bQ : ∀ i, i < l1.length → 0 ≤ Q i ∧ Q i ≤ 1000000000000) (L0 : L 0 = a0) (LS : ∀ i, i < l1.length → L (i + 1) = L i - Q i) (bL : ∀ i, i ≤ l1.length → -10000000000000000 ≤ L i ∧ L i ≤ 10000000000000000) (hLn : L l1.length ≤ l1.length) :
    Calls Try.prog 31 #[.int .i64 a0, .slice A1 l1.length c1] w fun e' w' => ∃ v0_ : Value, e' = .returned (.tuple #[v0_, .int .i64 0]) ∧ Kd.R (Kd.int .i64) 3 w' w.heap.size (fun _ => True) v0_ ((List.range l1.length).map fun i => Q i + if (rank R l1.length i : Int) < L l1.length then 1 else 0) ∧ Below w.heap.size w w' := by
  have HB := Aside0.mk (Below.refl w.heap.size w)
  have HR1 := Aside0.mk hr1
  have HC1 := Aside0.mk hc1
  have HF := Aside0.mk h
  have HQ := Aside0.mk hQ
  have HR := Aside0.mk hR
  have HBQ := Aside0.mk bQ
  have HL0 := Aside0.mk L0
  have HLS := Aside0.mk LS
  have HBL := Aside0.mk bL
  have HLN := Aside0.mk hLn
  have HN := Aside0.mk hn
  have hl2 : ((l1.length : Int) == 0) = false := beq_eq_false_iff_ne.mpr (by omega)
  have hl3 : ¬ (l1 = []) := fun h_ => by rw [h_] at hl; exact absurd hl (by decide)
  have hm1 := fun w => make_ints l1.length hn w
  have hm2 := fun w => make_u64s l1.length hn w
  clear hr1 hc1 h hQ hR bQ L0 LS bL hLn hn
  go_enter Try.func31, Try.ntmps31
  go_wp2_with (first | (go_at_call 40; refine (apportion_check.calls k a0 A1 c1 l1 0 0 _ HR1.out HC1.out HF.out).mono ?_; rintro e1 w1 ⟨rfl, ⟨m1, rfl⟩⟩))
  have HLW0 := Aside0.mk (LW.start w m1 l1.length)
  have HLN0 := Aside0.mk (LN.start w)
  have hgb : w.heap.size ≤ w.heap.size := Nat.le_refl _
  generalize (((((w.drewN m1).alloc (Obj.cells (madeCells #[Value.int IntKind.i64 0] l1.length) 3)).alloc (Obj.cells (madeCells #[Value.int IntKind.u64 0] l1.length) 73)).alloc (Obj.cells #[Value.slice (some { block := w.heap.size + 1, off := 0 }) l1.length l1.length] 72)).alloc (Obj.cells (madeCells #[Value.int IntKind.i64 0] l1.length) 3)) = W0 at HLW0 ⊢
  generalize w.heap.size + 1 + 1 + 1 = go at HLW0 HLN0 ⊢
  generalize w.heap.size + 1 + 1 = gb at HLW0 HLN0 ⊢
  generalize w.heap.size + 1 = gr at HLW0 HLN0 ⊢
  clear hgb hm1 hm2
  obtain ⟨gs, hgs⟩ : ∃ gs, gs = w.heap.size := ⟨_, rfl⟩
  rw [← hgs] at HLW0 HLN0 ⊢
  have HGS := Aside0.mk hgs
  clear hgs
  go_loopw [12, 49] (fun u v wr => ∃ (i : Nat) (S R1 O : Nat → Int), u = .int .i64 (L i) ∧ v = .int .i64 i ∧ i ≤ l1.length ∧ Aside0 (LW w gs gr gb go l1.length S R1 O wr) ∧ Aside0 (∀ p, p < i → S p = Q p ∧ R1 p = R p ∧ O p = p)) (fun _ v _ => l1.length - (intOf v).toNat)
  case atStart => exact ⟨0, _, _, _, by rw [HL0.out], rfl, Nat.zero_le _, HLW0, ⟨fun p hp => absurd hp (by omega)⟩⟩
  case round =>
    clear HLW0
    obtain ⟨i, S, R1, O, rfl, rfl, hi, HLW, HV⟩ := hrel
    by_cases c : i < l1.length
    · have d : decide ((i : Int) < (l1.length : Int)) = true := decide_eq_true (by omega)
      obtain ⟨ad, e, hx⟩ := Kd.at_int HR1.out (i : Int) (by omega) (by omega)
      cases e
      rw [show ((i : Int)).toNat = i from Int.toNat_natCast i] at hx
      replace hx := (HLW.out.bel.cell (World.block_lt_of_cell? w _ hx)).trans hx
      go_wp2_with (first | (go_at_call 41; refine (exact_MulDiv.calls k _ _ _ 0 (Q i) 0 _ (HQ.out i c)).mono ?_; rintro e w2 ⟨rfl, hb2⟩; have HW2 := Aside0.mk (HLW.out.below hb2); clear hb2))
      have bx := HW2.out.rb.cell 0 (by omega)
      have bq := HBQ.out i c
      have wq : IntKind.i64.wrap (Q i) = Q i := IntWalk.i64_in _ (by omega)
      have p0 : (0 : Int) ≤ (i : Int) := by omega
      have q0 : (i : Int) < (l1.length : Int) := by omega
      have HM := Aside0.mk (fun w => exact_MulMod.calls k _ _ _ (R i) w (HR.out i c))
      go_region_held3 (fun w' => w'.cell? ⟨gb, 0, none⟩ = some (.slice (some ⟨gr, 0, none⟩) l1.length l1.length))
        (first | exact bx | assumption | go_keep)
        (first | (go_at_call 42; refine (HM.out _).mono ?_; rintro e w3 ⟨rfl, hb3⟩; have HW3 := Aside0.mk ((HW2.out.drewN 1).below hb3); have bx3 := HW3.out.rb.cell 0 (by omega); have bx4 := (HW3.out.setR HLN0.out i c (R i)).rb.cell 0 (by omega); have cr3 := HW3.out.rr.cell i c; have fr3 := HW3.out.rr.free i))
      (have HW4 := Aside0.mk (HW3.out.setR HLN0.out i c (R i)))
      clear HW2 HW3 bx cr3 fr3 bx3 bx4 hx
      (have cs := HW4.out.rs.cell i c)
      (have fs := HW4.out.rs.free i)
      (have co := HW4.out.ro.cell i c)
      (have fo := HW4.out.ro.free i)
      (have HW5 := Aside0.mk (HW4.out.setS HLN0.out i c (Q i)))
      (have HW6 := Aside0.mk (HW4.out.setO HLN0.out i c i))
      (have HW7 := Aside0.mk (HW5.out.setO HLN0.out i c i))
      (have cs7 := HW7.out.rs.cell i c)
      rw [upd_self] at cs7
      (have co5 := HW5.out.ro.cell i c)
      (have cs6 := HW6.out.rs.cell i c)
      have hn1 := HN.out
      have bl := HBL.out i hi
      go_wp2
      go_roundw
      case rel => exact ⟨i + 1, _, _, _, by first | rw [HLS.out i c] | rw [HLS.out i c, show wrap64 (L i - Q i) = L i - Q i by unfold wrap64; omega], by exact congrArg (Value.int .i64) (by omega), c, HW7, ⟨fun p hp => by
        by_cases e : p = i
        · subst e; exact ⟨upd_self _ _ _, upd_self _ _ _, upd_self _ _ _⟩
        · have := HV.out p (by omega)
          refine ⟨?_, ?_, ?_⟩
          · rw [← this.1]; exact if_neg e
          · rw [← this.2.1]; exact if_neg e
          · rw [← this.2.2]; exact if_neg e⟩⟩
      case measure => simp only [intOf]; omega
    · have d : decide ((i : Int) < (l1.length : Int)) = false := decide_eq_false (by omega)
      obtain rfl : i = l1.length := by omega
      have HS0 := Aside0.mk (HLW.out.sort0 (fun p hp => (HV.out p hp).2.2))
      have HR0 := Aside0.mk (HLW.out.rest0 HLN0.out HN.out)
      go_wp2_with (first | (go_at_call 43; refine (Stable_calls HR0.out HS0.out (fun _ _ => rfl) (by have := HN.out; omega)).mono ?_; rintro e w2 ⟨rfl, A2, hS2, hW2, hO2⟩; have HW2 := Aside0.mk hW2; have HO2 := Aside0.mk hO2; have HS2 := Aside0.mk hS2; clear hS2 hW2 hO2))
      have HLW2 := Aside0.mk (LW.sorted (A := fun p => p) HLN0.out (LW.mk HLW.out.rs HLW.out.rr HLW.out.rb (HLW.out.ro.congr (fun p hp => congrArg (Value.int .i64) (HV.out p hp).2.2.symm)) HLW.out.bel) HS2.out)
      have HVQ := Aside0.mk (fun p hp => (HV.out p hp).1)
      have hRR : ∀ p, p < l1.length → R1 p = R p := fun p hp => (HV.out p hp).2.1
      have HRR := Aside0.mk hRR
      clear hRR HLW HV HS2 HS0 HR0
      go_loopw [17] (fun v wr => ∃ (t : Nat) (S3 : Nat → Int), v = .int .i64 t ∧ ((t : Int) ≤ L l1.length ∨ t = 0) ∧ Aside0 (LW w gs gr gb go l1.length S3 R1 (fun p => A2 p) wr) ∧ Aside0 (∀ p, p < l1.length → S3 p = Q p + if rank R1 l1.length p < t then 1 else 0)) (fun v _ => l1.length - (intOf v).toNat)
      case atStart => exact ⟨0, S, rfl, .inr rfl, HLW2, ⟨fun p hp => by rw [HVQ.out p hp, if_neg (by omega)]; omega⟩⟩
      case round =>
        obtain ⟨t, S3, rfl, ht, HLW3, HV3⟩ := hrel
        by_cases c : (t : Int) < L l1.length
        · have d : decide ((t : Int) < L l1.length) = true := decide_eq_true c
          have htn : t < l1.length := by have := HLN.out; omega
          have ha : A2 t < l1.length := HW2.out.all (n := l1.length) (Q := fun v => v < l1.length) (Nat.le_refl _) (fun k hk => hk) t htn
          have hra : rank R1 l1.length (A2 t) = t := rank_at (fun _ _ => rfl) HW2.out HO2.out t htn
          have HRA := Aside0.mk hra
          have co := HLW3.out.ro.cell t htn
          have cs := HLW3.out.rs.cell (A2 t) ha
          have fs := HLW3.out.rs.free (A2 t)
          have hv := HV3.out (A2 t) ha
          rw [hra, if_neg (by omega), Int.add_zero] at hv
          rw [hv] at cs
          have HSV := Aside0.mk hv
          have bq := HBQ.out (A2 t) ha
          have hn1 := HN.out
          clear hv hra
          have HA := Aside0.mk (rfl : A2 t = A2 t)
          have p0 : (0 : Int) ≤ (t : Int) := by omega
          have q0 : (t : Int) < (l1.length : Int) := by omega
          have p1 : (0 : Int) ≤ (A2 t : Int) := by omega
          have q1 : (A2 t : Int) < (l1.length : Int) := by omega
          go_wp2
          go_roundw
          case rel =>
            refine ⟨t + 1, _, ?_, .inl (by omega), ⟨HLW3.out.setS HLN0.out (A2 t) ha (Q (A2 t) + 1)⟩, ⟨fun p hp => ?_⟩⟩
            · exact congrArg (Value.int .i64) (by omega)
            · by_cases e : p = A2 t
              · subst e
                rw [upd_self, HRA.out, if_pos (by omega)]
              · rw [show upd S3 (A2 t) (Q (A2 t) + 1) p = S3 p from if_neg e, HV3.out p hp]
                have hne : rank R1 l1.length p ≠ t := fun h => by
                  obtain ⟨q, hq, rfl⟩ := sw_onto (n := l1.length) (fun _ _ => rfl) HW2.out p hp
                  rw [rank_at (fun _ _ => rfl) HW2.out HO2.out q hq] at h
                  exact e (by rw [h])
                by_cases z : rank R1 l1.length p < t
                · rw [if_pos z, if_pos (by omega)]
                · rw [if_neg z, if_neg (by omega)]
          case measure => simp only [intOf]; omega
        · have d : decide ((t : Int) < L l1.length) = false := decide_eq_false c
          go_wp2
          go_ret2
          refine ⟨_, rfl, ?_, by repeat (first | (with_reducible first | exact HLW3.out.bel | apply below_alloc | apply pw_below_drewN | apply below_drew1) | exact HLW3.out.bel)⟩
          have hr := HLW3.out.rs.row (base := w.heap.size) HLN0.out.s HN.out
          have el : (List.range l1.length).map S3 = (List.range l1.length).map fun i => Q i + if (rank R l1.length i : Int) < L l1.length then 1 else 0 := by
            refine List.map_congr_left fun i hi => ?_
            rw [HV3.out i (List.mem_range.mp hi), rank_congr HRR.out i (List.mem_range.mp hi)]
            by_cases z : rank R l1.length i < t
            · rw [if_pos z, if_pos (by omega)]
            · rw [if_neg z, if_neg (by omega)]
          rw [← el]
          exact hr
set_option maxHeartbeats 8000000 in
set_option maxRecDepth 100000 in
theorem share_some (k : Nat) (a0 : Int) (A1 : Option Addr) (c1 : Nat) (l1 : List Int) (s : Int) (w : World) (hr1 : Kd.C (Kd.int .i64) w A1 l1.length l1) (hc1 : l1.length ≤ c1) (h : apportion_check.f k a0 l1 = some (s, 0)) (hs : s ≠ 0) (hl : 0 < l1.length) (hn : l1.length ≤ 1000) (Q R L : Nat → Int)
    (hQ : ∀ i : Nat, i < l1.length → exact_MulDiv.f k (IntKind.u64.wrap a0) (IntKind.u64.wrap (rd l1 i)) (IntKind.u64.wrap s) 0 = some (Q i, 0)) (hR : ∀ i : Nat, i < l1.length → exact_MulMod.f k (IntKind.u64.wrap a0) (IntKind.u64.wrap (rd l1 i)) (IntKind.u64.wrap s) = some (R i)) (bQ : ∀ i, i < l1.length → 0 ≤ Q i ∧ Q i ≤ 1000000000000) (L0 : L 0 = a0) (LS : ∀ i, i < l1.length → L (i + 1) = L i - Q i) (bL : ∀ i, i ≤ l1.length → -10000000000000000 ≤ L i ∧ L i ≤ 10000000000000000) (hLn : L l1.length ≤ l1.length) :
    Calls Try.prog 31 #[.int .i64 a0, .slice A1 l1.length c1] w fun e' w' => ∃ v0_ : Value, e' = .returned (.tuple #[v0_, .int .i64 0]) ∧ Kd.R (Kd.int .i64) 3 w' w.heap.size (fun _ => True) v0_ ((List.range l1.length).map fun i => Q i + if (rank R l1.length i : Int) < L l1.length then 1 else 0) ∧ Below w.heap.size w w' := by
  have HB := Aside0.mk (Below.refl w.heap.size w)
  have HR1 := Aside0.mk hr1
  have HC1 := Aside0.mk hc1
  have HF := Aside0.mk h
  have HQ := Aside0.mk hQ
  have HR := Aside0.mk hR
  have HBQ := Aside0.mk bQ
  have HL0 := Aside0.mk L0
  have HLS := Aside0.mk LS
  have HBL := Aside0.mk bL
  have HLN := Aside0.mk hLn
  have HN := Aside0.mk hn
  have hl2 : ((l1.length : Int) == 0) = false := beq_eq_false_iff_ne.mpr (by omega)
  have hl3 : ¬ (l1 = []) := fun h_ => by rw [h_] at hl; exact absurd hl (by decide)
  have hs2 : (s == 0) = false := beq_eq_false_iff_ne.mpr hs
  clear hs
  have hm1 := fun w => make_ints l1.length hn w
  have hm2 := fun w => make_u64s l1.length hn w
  clear hr1 hc1 h hQ hR bQ L0 LS bL hLn hn
  go_enter Try.func31, Try.ntmps31
  go_wp2_with (first | (go_at_call 40; refine (apportion_check.calls k a0 A1 c1 l1 s 0 _ HR1.out HC1.out HF.out).mono ?_; rintro e1 w1 ⟨rfl, ⟨m1, rfl⟩⟩))
  have HLW0 := Aside0.mk (LW.start w m1 l1.length)
  have HLN0 := Aside0.mk (LN.start w)
  have hgb : w.heap.size ≤ w.heap.size := Nat.le_refl _
  generalize (((((w.drewN m1).alloc (Obj.cells (madeCells #[Value.int IntKind.i64 0] l1.length) 3)).alloc (Obj.cells (madeCells #[Value.int IntKind.u64 0] l1.length) 73)).alloc (Obj.cells #[Value.slice (some { block := w.heap.size + 1, off := 0 }) l1.length l1.length] 72)).alloc (Obj.cells (madeCells #[Value.int IntKind.i64 0] l1.length) 3)) = W0 at HLW0 ⊢
  generalize w.heap.size + 1 + 1 + 1 = go at HLW0 HLN0 ⊢
  generalize w.heap.size + 1 + 1 = gb at HLW0 HLN0 ⊢
  generalize w.heap.size + 1 = gr at HLW0 HLN0 ⊢
  clear hgb hm1 hm2
  obtain ⟨gs, hgs⟩ : ∃ gs, gs = w.heap.size := ⟨_, rfl⟩
  rw [← hgs] at HLW0 HLN0 ⊢
  have HGS := Aside0.mk hgs
  clear hgs
  go_loopw [12, 49] (fun u v wr => ∃ (i : Nat) (S R1 O : Nat → Int), u = .int .i64 (L i) ∧ v = .int .i64 i ∧ i ≤ l1.length ∧ Aside0 (LW w gs gr gb go l1.length S R1 O wr) ∧ Aside0 (∀ p, p < i → S p = Q p ∧ R1 p = R p ∧ O p = p)) (fun _ v _ => l1.length - (intOf v).toNat)
  case atStart => exact ⟨0, _, _, _, by rw [HL0.out], rfl, Nat.zero_le _, HLW0, ⟨fun p hp => absurd hp (by omega)⟩⟩
  case round =>
    clear HLW0
    obtain ⟨i, S, R1, O, rfl, rfl, hi, HLW, HV⟩ := hrel
    by_cases c : i < l1.length
    · have d : decide ((i : Int) < (l1.length : Int)) = true := decide_eq_true (by omega)
      obtain ⟨ad, e, hx⟩ := Kd.at_int HR1.out (i : Int) (by omega) (by omega)
      cases e
      rw [show ((i : Int)).toNat = i from Int.toNat_natCast i] at hx
      replace hx := (HLW.out.bel.cell (World.block_lt_of_cell? w _ hx)).trans hx
      go_wp2_with (first | (go_at_call 41; refine (exact_MulDiv.calls k _ _ _ 0 (Q i) 0 _ (HQ.out i c)).mono ?_; rintro e w2 ⟨rfl, hb2⟩; have HW2 := Aside0.mk (HLW.out.below hb2); clear hb2))
      have bx := HW2.out.rb.cell 0 (by omega)
      have bq := HBQ.out i c
      have wq : IntKind.i64.wrap (Q i) = Q i := IntWalk.i64_in _ (by omega)
      have p0 : (0 : Int) ≤ (i : Int) := by omega
      have q0 : (i : Int) < (l1.length : Int) := by omega
      have HM := Aside0.mk (fun w => exact_MulMod.calls k _ _ _ (R i) w (HR.out i c))
      go_region_held3 (fun w' => w'.cell? ⟨gb, 0, none⟩ = some (.slice (some ⟨gr, 0, none⟩) l1.length l1.length))
        (first | exact bx | assumption | go_keep)
        (first | (go_at_call 42; refine (HM.out _).mono ?_; rintro e w3 ⟨rfl, hb3⟩; have HW3 := Aside0.mk ((HW2.out.drewN 1).below hb3); have bx3 := HW3.out.rb.cell 0 (by omega); have bx4 := (HW3.out.setR HLN0.out i c (R i)).rb.cell 0 (by omega); have cr3 := HW3.out.rr.cell i c; have fr3 := HW3.out.rr.free i))
      (have HW4 := Aside0.mk (HW3.out.setR HLN0.out i c (R i)))
      clear HW2 HW3 bx cr3 fr3 bx3 bx4 hx
      (have cs := HW4.out.rs.cell i c)
      (have fs := HW4.out.rs.free i)
      (have co := HW4.out.ro.cell i c)
      (have fo := HW4.out.ro.free i)
      (have HW5 := Aside0.mk (HW4.out.setS HLN0.out i c (Q i)))
      (have HW6 := Aside0.mk (HW4.out.setO HLN0.out i c i))
      (have HW7 := Aside0.mk (HW5.out.setO HLN0.out i c i))
      (have cs7 := HW7.out.rs.cell i c)
      rw [upd_self] at cs7
      (have co5 := HW5.out.ro.cell i c)
      (have cs6 := HW6.out.rs.cell i c)
      have hn1 := HN.out
      have bl := HBL.out i hi
      go_wp2
      go_roundw
      case rel => exact ⟨i + 1, _, _, _, by first | rw [HLS.out i c] | rw [HLS.out i c, show wrap64 (L i - Q i) = L i - Q i by unfold wrap64; omega], by exact congrArg (Value.int .i64) (by omega), c, HW7, ⟨fun p hp => by
        by_cases e : p = i
        · subst e; exact ⟨upd_self _ _ _, upd_self _ _ _, upd_self _ _ _⟩
        · have := HV.out p (by omega)
          refine ⟨?_, ?_, ?_⟩
          · rw [← this.1]; exact if_neg e
          · rw [← this.2.1]; exact if_neg e
          · rw [← this.2.2]; exact if_neg e⟩⟩
      case measure => simp only [intOf]; omega
    · have d : decide ((i : Int) < (l1.length : Int)) = false := decide_eq_false (by omega)
      obtain rfl : i = l1.length := by omega
      have HS0 := Aside0.mk (HLW.out.sort0 (fun p hp => (HV.out p hp).2.2))
      have HR0 := Aside0.mk (HLW.out.rest0 HLN0.out HN.out)
      go_wp2_with (first | (go_at_call 43; refine (Stable_calls HR0.out HS0.out (fun _ _ => rfl) (by have := HN.out; omega)).mono ?_; rintro e w2 ⟨rfl, A2, hS2, hW2, hO2⟩; have HW2 := Aside0.mk hW2; have HO2 := Aside0.mk hO2; have HS2 := Aside0.mk hS2; clear hS2 hW2 hO2))
      have HLW2 := Aside0.mk (LW.sorted (A := fun p => p) HLN0.out (LW.mk HLW.out.rs HLW.out.rr HLW.out.rb (HLW.out.ro.congr (fun p hp => congrArg (Value.int .i64) (HV.out p hp).2.2.symm)) HLW.out.bel) HS2.out)
      have HVQ := Aside0.mk (fun p hp => (HV.out p hp).1)
      have hRR : ∀ p, p < l1.length → R1 p = R p := fun p hp => (HV.out p hp).2.1
      have HRR := Aside0.mk hRR
      clear hRR HLW HV HS2 HS0 HR0
      go_loopw [17] (fun v wr => ∃ (t : Nat) (S3 : Nat → Int), v = .int .i64 t ∧ ((t : Int) ≤ L l1.length ∨ t = 0) ∧ Aside0 (LW w gs gr gb go l1.length S3 R1 (fun p => A2 p) wr) ∧ Aside0 (∀ p, p < l1.length → S3 p = Q p + if rank R1 l1.length p < t then 1 else 0)) (fun v _ => l1.length - (intOf v).toNat)
      case atStart => exact ⟨0, S, rfl, .inr rfl, HLW2, ⟨fun p hp => by rw [HVQ.out p hp, if_neg (by omega)]; omega⟩⟩
      case round =>
        obtain ⟨t, S3, rfl, ht, HLW3, HV3⟩ := hrel
        by_cases c : (t : Int) < L l1.length
        · have d : decide ((t : Int) < L l1.length) = true := decide_eq_true c
          have htn : t < l1.length := by have := HLN.out; omega
          have ha : A2 t < l1.length := HW2.out.all (n := l1.length) (Q := fun v => v < l1.length) (Nat.le_refl _) (fun k hk => hk) t htn
          have hra : rank R1 l1.length (A2 t) = t := rank_at (fun _ _ => rfl) HW2.out HO2.out t htn
          have HRA := Aside0.mk hra
          have co := HLW3.out.ro.cell t htn
          have cs := HLW3.out.rs.cell (A2 t) ha
          have fs := HLW3.out.rs.free (A2 t)
          have hv := HV3.out (A2 t) ha
          rw [hra, if_neg (by omega), Int.add_zero] at hv
          rw [hv] at cs
          have HSV := Aside0.mk hv
          have bq := HBQ.out (A2 t) ha
          have hn1 := HN.out
          clear hv hra
          have HA := Aside0.mk (rfl : A2 t = A2 t)
          have p0 : (0 : Int) ≤ (t : Int) := by omega
          have q0 : (t : Int) < (l1.length : Int) := by omega
          have p1 : (0 : Int) ≤ (A2 t : Int) := by omega
          have q1 : (A2 t : Int) < (l1.length : Int) := by omega
          go_wp2
          go_roundw
          case rel =>
            refine ⟨t + 1, _, ?_, .inl (by omega), ⟨HLW3.out.setS HLN0.out (A2 t) ha (Q (A2 t) + 1)⟩, ⟨fun p hp => ?_⟩⟩
            · exact congrArg (Value.int .i64) (by omega)
            · by_cases e : p = A2 t
              · subst e
                rw [upd_self, HRA.out, if_pos (by omega)]
              · rw [show upd S3 (A2 t) (Q (A2 t) + 1) p = S3 p from if_neg e, HV3.out p hp]
                have hne : rank R1 l1.length p ≠ t := fun h => by
                  obtain ⟨q, hq, rfl⟩ := sw_onto (n := l1.length) (fun _ _ => rfl) HW2.out p hp
                  rw [rank_at (fun _ _ => rfl) HW2.out HO2.out q hq] at h
                  exact e (by rw [h])
                by_cases z : rank R1 l1.length p < t
                · rw [if_pos z, if_pos (by omega)]
                · rw [if_neg z, if_neg (by omega)]
          case measure => simp only [intOf]; omega
        · have d : decide ((t : Int) < L l1.length) = false := decide_eq_false c
          go_wp2
          go_ret2
          refine ⟨_, rfl, ?_, by repeat (first | (with_reducible first | exact HLW3.out.bel | apply below_alloc | apply pw_below_drewN | apply below_drew1) | exact HLW3.out.bel)⟩
          have hr := HLW3.out.rs.row (base := w.heap.size) HLN0.out.s HN.out
          have el : (List.range l1.length).map S3 = (List.range l1.length).map fun i => Q i + if (rank R l1.length i : Int) < L l1.length then 1 else 0 := by
            refine List.map_congr_left fun i hi => ?_
            rw [HV3.out i (List.mem_range.mp hi), rank_congr HRR.out i (List.mem_range.mp hi)]
            by_cases z : rank R l1.length i < t
            · rw [if_pos z, if_pos (by omega)]
            · rw [if_neg z, if_neg (by omega)]
          rw [← el]
          exact hr
theorem shAll_parts {k : Nat} {total sum : Int} {ws : List Int} (h : shAll k total sum ws = true) : (∀ i : Nat, i < ws.length → exact_MulDiv.f k (IntKind.u64.wrap total) (IntKind.u64.wrap (ws.getD i 0)) (IntKind.u64.wrap sum) 0 = some (shQ total sum ws i, 0)) ∧ (∀ i : Nat, i < ws.length → exact_MulMod.f k (IntKind.u64.wrap total) (IntKind.u64.wrap (ws.getD i 0)) (IntKind.u64.wrap sum) = some (shR total sum ws i)) ∧ (∀ i, i < ws.length → 0 ≤ shQ total sum ws i ∧ shQ total sum ws i ≤ 1000000000000) ∧ ws.length ≤ 1000 ∧ (∀ i, i ≤ ws.length → -10000000000000000 ≤ shLeft total sum ws i ∧ shLeft total sum ws i ≤ 10000000000000000) ∧ shLeft total sum ws ws.length ≤ ws.length := by
  unfold shAll at h
  simp only [Bool.and_eq_true, List.all_eq_true, decide_eq_true_eq] at h
  obtain ⟨⟨⟨⟨h1, h2⟩, h3⟩, h4⟩, h5⟩ := h
  have hp : ∀ i, i < ws.length → (exact_MulDiv.f k (IntKind.u64.wrap total) (IntKind.u64.wrap (ws.getD i 0)) (IntKind.u64.wrap sum) 0 = some (shQ total sum ws i, 0) ∧ exact_MulMod.f k (IntKind.u64.wrap total) (IntKind.u64.wrap (ws.getD i 0)) (IntKind.u64.wrap sum) = some (shR total sum ws i)) ∧ 0 ≤ shQ total sum ws i ∧ shQ total sum ws i ≤ 1000000000000 := by
    intro i hi
    have := h1 i (List.mem_range.mpr hi)
    unfold shOk at this
    simp only [Bool.and_eq_true, decide_eq_true_eq] at this
    exact ⟨⟨this.1.1.1, this.1.1.2⟩, this.1.2, this.2⟩
  refine ⟨fun i hi => (hp i hi).1.1, fun i hi => (hp i hi).1.2, fun i hi => (hp i hi).2, h2, fun i hi => ?_, h5⟩
  have := shLeft_lo total sum ws i (fun k hk => (hp k (by omega)).2)
  have : (i : Int) ≤ 1000 := by omega
  omega
theorem shW_len (c : Int) (l : List Int) : (shW c l).length = l.length := by unfold shW; split <;> simp
theorem shW_zero (l : List Int) (i : Nat) (hi : i < l.length) : (shW 0 l).getD i 0 = 1 := by
  unfold shW; rw [if_pos rfl, List.getD_eq_getElem?_getD]; simp [hi]
theorem apportion_Share.calls (k : Nat) (a0 : Int) (A1 : Option Addr) (c1 : Nat) (l1 : List Int) (r1 : List Int) (r2 : Int) (w : World) (hr1 : Kd.C (Kd.int .i64) w A1 l1.length l1) (hc1 : l1.length ≤ c1) (h : apportion_Share.f k a0 l1 = some (r1, r2)) :
    Calls Try.prog 31 #[.int .i64 a0, .slice A1 l1.length c1] w fun e w' => ∃ v0_ : Value, e = .returned (.tuple #[v0_, .int .i64 r2]) ∧ Kd.R (Kd.int .i64) 3 w' w.heap.size (fun _ => True) v0_ r1 ∧ Below w.heap.size w w' := by
  unfold apportion_Share.f at h
  obtain ⟨⟨s, e⟩, hc, h⟩ := Option.bind_eq_some_iff.mp h
  dsimp only at h
  by_cases hz : e = 0 ∧ 0 < l1.length
  · obtain ⟨rfl, hl⟩ := hz
    rw [if_pos ⟨rfl, hl⟩] at h
    by_cases hA : shAll k a0 (shSum s l1) (shW s l1) = true
    · rw [if_pos hA] at h
      simp only [Option.some.injEq, Prod.mk.injEq] at h
      obtain ⟨rfl, rfl⟩ := h
      obtain ⟨p1, p2, p3, p4, p5, p6⟩ := shAll_parts hA
      unfold shOut
      rw [shW_len] at p1 p2 p3 p4 p5 p6 ⊢
      by_cases hs : s = 0
      · subst hs
        have es : shSum 0 l1 = (l1.length : Int) := if_pos rfl
        rw [es] at p1 p2 p3 p5 p6 ⊢
        exact share_zero k a0 A1 c1 l1 w hr1 hc1 hc hl p4 _ _ _ (fun i hi => by have := p1 i hi; rw [shW_zero l1 i hi] at this; exact this) (fun i hi => by have := p2 i hi; rw [shW_zero l1 i hi] at this; exact this) p3 rfl (fun i hi => rfl) p5 p6
      · have es : shSum s l1 = s := if_neg hs
        have ew : shW s l1 = l1 := if_neg hs
        rw [es, ew] at p1 p2 p3 p5 p6 ⊢
        exact share_some k a0 A1 c1 l1 s w hr1 hc1 hc hs hl p4 _ _ _ p1 p2 p3 rfl (fun i hi => rfl) p5 p6
    · rw [if_neg hA] at h; exact absurd h (by simp)
  · rw [if_neg hz] at h
    simp only [Option.some.injEq, Prod.mk.injEq] at h
    obtain ⟨rfl, rfl⟩ := h
    exact share_nil k a0 A1 c1 l1 s e w hr1 hc1 hc hz

end Go.Proofs.Yteoieencagcgdaa.PX
end
section
namespace Go.Proofs.Yteoieencagcgdaa.PX
open Go.RowKit Go.Proofs.YteoieencagcgdaaW.PrintWords Go.Proofs.YteoieencagcgdaaW.PrintLast Go.Proofs.YteoieencagcgdaaW.PrintMore
attribute [local go_sem] max2_int min2_int max_two min_two max_three min_three max_four min_four
set_option linter.unusedVariables false
set_option linter.unusedSimpArgs false

mutual
def valuation_charge.j0 : Nat → Int → Bool → Int → Int → ByteArray → Int → Int → Option (Int)
  | 0, _, _, _, _, _, _, _ => none
  | k + 1, x1, x22, x168000, x168001, x168002, x168003, x168004 => if x22 = true then (some 2) else (if x168001 < 0 then (valuation_charge.j1 k true x168000 x168001 x168002 x168003 x168004) else (if x168001 > 1000000000000 then (valuation_charge.j1 k true x168000 x168001 x168002 x168003 x168004) else (if x168004 < 0 then (valuation_charge.j1 k true x168000 x168001 x168002 x168003 x168004) else (valuation_charge.j1 k (decide (x168004 ≥ x1)) x168000 x168001 x168002 x168003 x168004))))
def valuation_charge.j1 : Nat → Bool → Int → Int → ByteArray → Int → Int → Option (Int)
  | 0, _, _, _, _, _, _ => none
  | k + 1, x41, x168000, x168001, x168002, x168003, x168004 => if x41 = true then (some 2) else (if x168003 = 3 then (some 0) else (if x168004 = 0 then (some 0) else (some 2)))
end
def valuation_charge.f (k : Nat) (a0_0 : Int) (a0_1 : Int) (a0_2 : ByteArray) (a0_3 : Int) (a0_4 : Int) (a1 : Int) : Option (Int) := if a0_0 < 1 then (valuation_charge.j0 k a1 true a0_0 a0_1 a0_2 a0_3 a0_4) else (if a0_0 > 9 then (valuation_charge.j0 k a1 true a0_0 a0_1 a0_2 a0_3 a0_4) else (if a0_3 < 1 then (valuation_charge.j0 k a1 true a0_0 a0_1 a0_2 a0_3 a0_4) else (valuation_charge.j0 k a1 (decide (a0_3 > 3)) a0_0 a0_1 a0_2 a0_3 a0_4)))
set_option maxHeartbeats 8000000 in
set_option maxRecDepth 100000 in
theorem valuation_charge.calls (k : Nat) (a0_0 : Int) (a0_1 : Int) (a0_2 : ByteArray) (a0_3 : Int) (a0_4 : Int) (a1 : Int) (r : Int) (w : World) (h : valuation_charge.f k a0_0 a0_1 a0_2 a0_3 a0_4 a1 = some r) :
   Calls Try.prog 25 #[.agg #[.int .i64 a0_0, .int .i64 a0_1, .string a0_2, .int .i64 a0_3, .int .i64 a0_4], .int .i64 a1] w fun e w' => e = .returned (.int .i64 r) ∧ Below w.heap.size w w' := by
  have hu33 := Try.underlying33
  have HB := Aside0.mk (Below.refl w.heap.size w)
  have H : (if a0_0 < 1 then (valuation_charge.j0 k a1 true a0_0 a0_1 a0_2 a0_3 a0_4) else (if a0_0 > 9 then (valuation_charge.j0 k a1 true a0_0 a0_1 a0_2 a0_3 a0_4) else (if a0_3 < 1 then (valuation_charge.j0 k a1 true a0_0 a0_1 a0_2 a0_3 a0_4) else (valuation_charge.j0 k a1 (decide (a0_3 > 3)) a0_0 a0_1 a0_2 a0_3 a0_4)))) = some r := h
  clear h
  have HC3 := Aside0.mk H
  clear H
  go_enter Try.func25, Try.ntmps25
  go_upto_region 1 with (first | ((with_reducible refine gate_dst (N := 2) rfl ?_); refine boxA (N := 2) (cs := #[.int .i64 a0_0, .int .i64 a0_1, .string a0_2, .int .i64 a0_3, .int .i64 a0_4]) (t := 33) ?_; intro gb167 hg w4 hbox hb; have n0_ := hB HB hb; have n1_ := Aside0.mk (hbox); have n2_ := gW hg HB; have n3_ := gW hg HB; clear HB; have HB := n0_; have BK167 := n1_; have GW167 := n2_; have GE167 := n3_; clear n0_ n1_ n2_ n3_; clear hb hbox hg))
  (try simp only [Act.put, List.setIfInBounds_toArray, List.set_cons_zero, List.set_cons_succ])
  go_cut [22] (fun v22 wc => ∃ (kq : Nat) (x22_2 : Bool), v22 = .bool x22_2 ∧ Aside0 (valuation_charge.j0 kq a1 x22_2 a0_0 a0_1 a0_2 a0_3 a0_4 = some r) ∧ Aside0 (kq ≤ k) ∧ Aside0 (wc.heap[gb167]? = some (.cells #[.int .i64 a0_0, .int .i64 a0_1, .string a0_2, .int .i64 a0_3, .int .i64 a0_4] 33 (0, 0))) ∧ Aside0 (Below w.heap.size w wc))
  case first =>
   have H := HC3.out
   clear HC3
   by_cases c5 : a0_0 < 1
   ·rw [if_pos c5] at H
    have c5b0 : decide (a0_0 < 1) = true := decide_eq_true c5
    clear c5
    (first | rw [c5b0] | (simp only [i64_w, i32_w]; rw [c5b0]) | skip)
    have H' := Aside0.mk H
    clear H
    have hcz6_0 : w4.cell? ⟨gb167, 0, none⟩ = some (.int .i64 a0_0) := lc BK167 0
    have hcz6_1 : w4.cell? ⟨gb167, 1, none⟩ = some (.int .i64 a0_1) := lc BK167 1
    have hcz6_2 : w4.cell? ⟨gb167, 2, none⟩ = some (.string a0_2) := lc BK167 2
    have hcz6_3 : w4.cell? ⟨gb167, 3, none⟩ = some (.int .i64 a0_3) := lc BK167 3
    have hcz6_4 : w4.cell? ⟨gb167, 4, none⟩ = some (.int .i64 a0_4) := lc BK167 4
    have hfz6_0 := fz BK167 0
    have hfz6_1 := fz BK167 1
    have hfz6_2 := fz BK167 2
    have hfz6_3 := fz BK167 3
    have hfz6_4 := fz BK167 4
    go_wp2
    go_meet
    case rel => exact ⟨_, (true), (by first | rfl | (simp; done) | (simp [*]; done)), H', ⟨by first | omega | exact Nat.le_refl _⟩, ⟨aB BK167⟩, ⟨aH HB⟩⟩
   ·rw [if_neg c5] at H
    have c5b0 : decide (a0_0 < 1) = false := decide_eq_false c5
    clear c5
    (first | rw [c5b0] | (simp only [i64_w, i32_w]; rw [c5b0]) | skip)
    by_cases c7 : a0_0 > 9
    ·rw [if_pos c7] at H
     have c7b0 : decide (9 < a0_0) = true := decide_eq_true c7
     clear c7
     have H' := Aside0.mk H
     clear H
     have hcz8_0 : w4.cell? ⟨gb167, 0, none⟩ = some (.int .i64 a0_0) := lc BK167 0
     have hcz8_1 : w4.cell? ⟨gb167, 1, none⟩ = some (.int .i64 a0_1) := lc BK167 1
     have hcz8_2 : w4.cell? ⟨gb167, 2, none⟩ = some (.string a0_2) := lc BK167 2
     have hcz8_3 : w4.cell? ⟨gb167, 3, none⟩ = some (.int .i64 a0_3) := lc BK167 3
     have hcz8_4 : w4.cell? ⟨gb167, 4, none⟩ = some (.int .i64 a0_4) := lc BK167 4
     have hfz8_0 := fz BK167 0
     have hfz8_1 := fz BK167 1
     have hfz8_2 := fz BK167 2
     have hfz8_3 := fz BK167 3
     have hfz8_4 := fz BK167 4
     go_wp2
     go_meet
     case rel => exact ⟨_, (true), (by first | rfl | (simp; done) | (simp [*]; done)), H', ⟨by first | omega | exact Nat.le_refl _⟩, ⟨aB BK167⟩, ⟨aH HB⟩⟩
    ·rw [if_neg c7] at H
     have c7b0 : decide (9 < a0_0) = false := decide_eq_false c7
     clear c7
     by_cases c9 : a0_3 < 1
     ·rw [if_pos c9] at H
      have c9b0 : decide (a0_3 < 1) = true := decide_eq_true c9
      clear c9
      have H' := Aside0.mk H
      clear H
      have hcz10_0 : w4.cell? ⟨gb167, 0, none⟩ = some (.int .i64 a0_0) := lc BK167 0
      have hcz10_1 : w4.cell? ⟨gb167, 1, none⟩ = some (.int .i64 a0_1) := lc BK167 1
      have hcz10_2 : w4.cell? ⟨gb167, 2, none⟩ = some (.string a0_2) := lc BK167 2
      have hcz10_3 : w4.cell? ⟨gb167, 3, none⟩ = some (.int .i64 a0_3) := lc BK167 3
      have hcz10_4 : w4.cell? ⟨gb167, 4, none⟩ = some (.int .i64 a0_4) := lc BK167 4
      have hfz10_0 := fz BK167 0
      have hfz10_1 := fz BK167 1
      have hfz10_2 := fz BK167 2
      have hfz10_3 := fz BK167 3
      have hfz10_4 := fz BK167 4
      go_wp2
      go_meet
      case rel => exact ⟨_, (true), (by first | rfl | (simp; done) | (simp [*]; done)), H', ⟨by first | omega | exact Nat.le_refl _⟩, ⟨aB BK167⟩, ⟨aH HB⟩⟩
     ·rw [if_neg c9] at H
      have c9b0 : decide (a0_3 < 1) = false := decide_eq_false c9
      clear c9
      have H' := Aside0.mk H
      clear H
      have hcz11_0 : w4.cell? ⟨gb167, 0, none⟩ = some (.int .i64 a0_0) := lc BK167 0
      have hcz11_1 : w4.cell? ⟨gb167, 1, none⟩ = some (.int .i64 a0_1) := lc BK167 1
      have hcz11_2 : w4.cell? ⟨gb167, 2, none⟩ = some (.string a0_2) := lc BK167 2
      have hcz11_3 : w4.cell? ⟨gb167, 3, none⟩ = some (.int .i64 a0_3) := lc BK167 3
      have hcz11_4 : w4.cell? ⟨gb167, 4, none⟩ = some (.int .i64 a0_4) := lc BK167 4
      have hfz11_0 := fz BK167 0
      have hfz11_1 := fz BK167 1
      have hfz11_2 := fz BK167 2
      have hfz11_3 := fz BK167 3
      have hfz11_4 := fz BK167 4
      go_wp2
      go_meet
      case rel => exact ⟨_, (decide (a0_3 > 3)), (by first | rfl | (simp; done) | (simp [*]; done)), H', ⟨by first | omega | exact Nat.le_refl _⟩, ⟨aB BK167⟩, ⟨aH HB⟩⟩
  case rest =>
   clear HC3
   try clear c2
   try clear p2
   try clear c5
   try clear c5b0
   try clear c7
   try clear c7b0
   try clear c9
   try clear c9b0
   try clear hcz10_0
   try clear hcz10_1
   try clear hcz10_2
   try clear hcz10_3
   try clear hcz10_4
   try clear hcz11_0
   try clear hcz11_1
   try clear hcz11_2
   try clear hcz11_3
   try clear hcz11_4
   try clear hcz6_0
   try clear hcz6_1
   try clear hcz6_2
   try clear hcz6_3
   try clear hcz6_4
   try clear hcz8_0
   try clear hcz8_1
   try clear hcz8_2
   try clear hcz8_3
   try clear hcz8_4
   try clear hfz10_0
   try clear hfz10_1
   try clear hfz10_2
   try clear hfz10_3
   try clear hfz10_4
   try clear hfz11_0
   try clear hfz11_1
   try clear hfz11_2
   try clear hfz11_3
   try clear hfz11_4
   try clear hfz6_0
   try clear hfz6_1
   try clear hfz6_2
   try clear hfz6_3
   try clear hfz6_4
   try clear hfz8_0
   try clear hfz8_1
   try clear hfz8_2
   try clear hfz8_3
   try clear hfz8_4
   obtain ⟨kq, x22_2, rfl, HA, HJ2, BK167, HB⟩ := hcut
   cases kq with
   | zero => exact absurd HA.out (by simp [valuation_charge.j0])
   | succ kj2 =>
    have H := HA.out
    clear HA
    simp only [valuation_charge.j0] at H
    by_cases c12 : x22_2 = true
    ·subst c12
     have H1 : (some 2) = some r := by rw [if_pos rfl] at H; exact H
     clear H
     have H := H1
     clear H1
     obtain rfl := Option.some.inj H
     simp only [Option.some.injEq, Prod.mk.injEq] at H
     obtain ⟨rfl⟩ := H
     go_wp2
     go_ret
     exact ⟨by first | rfl | (simp [errW_none, errW_some] <;> rfl) | (simp [*, errW_none, errW_some] <;> rfl) | (simp (disch := first | assumption | omega) only [Int.tdiv_eq_ediv_of_nonneg, Int.tmod_eq_emod_of_nonneg]; rfl), aH HB⟩
    ·replace c12 := Bool.eq_false_iff.mpr c12
     subst c12
     have H1 : (if a0_1 < 0 then (valuation_charge.j1 kj2 true a0_0 a0_1 a0_2 a0_3 a0_4) else (if a0_1 > 1000000000000 then (valuation_charge.j1 kj2 true a0_0 a0_1 a0_2 a0_3 a0_4) else (if a0_4 < 0 then (valuation_charge.j1 kj2 true a0_0 a0_1 a0_2 a0_3 a0_4) else (valuation_charge.j1 kj2 (decide (a0_4 ≥ a1)) a0_0 a0_1 a0_2 a0_3 a0_4)))) = some r := by rw [if_neg (show ¬ (false = true) by decide)] at H; exact H
     clear H
     have H := H1
     clear H1
     have HC13 := Aside0.mk H
     clear H
     go_upto_region 3 with (fail)
     go_cut [41] (fun v41 wc => ∃ (kq : Nat) (x41_12 : Bool), v41 = .bool x41_12 ∧ Aside0 (valuation_charge.j1 kq x41_12 a0_0 a0_1 a0_2 a0_3 a0_4 = some r) ∧ Aside0 (kq ≤ kj2) ∧ Aside0 (wc.heap[gb167]? = some (.cells #[.int .i64 a0_0, .int .i64 a0_1, .string a0_2, .int .i64 a0_3, .int .i64 a0_4] 33 (0, 0))) ∧ Aside0 (Below w.heap.size w wc))
     case first =>
      have H := HC13.out
      clear HC13
      by_cases c14 : a0_1 < 0
      ·rw [if_pos c14] at H
       have c14b0 : decide (a0_1 < 0) = true := decide_eq_true c14
       clear c14
       (first | rw [c14b0] | (simp only [i64_w, i32_w]; rw [c14b0]) | skip)
       have H' := Aside0.mk H
       clear H
       have hcz15_0 : wc.cell? ⟨gb167, 0, none⟩ = some (.int .i64 a0_0) := lc BK167 0
       have hcz15_1 : wc.cell? ⟨gb167, 1, none⟩ = some (.int .i64 a0_1) := lc BK167 1
       have hcz15_2 : wc.cell? ⟨gb167, 2, none⟩ = some (.string a0_2) := lc BK167 2
       have hcz15_3 : wc.cell? ⟨gb167, 3, none⟩ = some (.int .i64 a0_3) := lc BK167 3
       have hcz15_4 : wc.cell? ⟨gb167, 4, none⟩ = some (.int .i64 a0_4) := lc BK167 4
       have hfz15_0 := fz BK167 0
       have hfz15_1 := fz BK167 1
       have hfz15_2 := fz BK167 2
       have hfz15_3 := fz BK167 3
       have hfz15_4 := fz BK167 4
       go_wp2
       go_meet
       case rel => exact ⟨_, (true), (by first | rfl | (simp; done) | (simp [*]; done)), H', ⟨by have := HJ2.out; first | omega | exact Nat.le_refl _⟩, ⟨aB BK167⟩, ⟨aH HB⟩⟩
      ·rw [if_neg c14] at H
       have c14b0 : decide (a0_1 < 0) = false := decide_eq_false c14
       clear c14
       (first | rw [c14b0] | (simp only [i64_w, i32_w]; rw [c14b0]) | skip)
       by_cases c16 : a0_1 > 1000000000000
       ·rw [if_pos c16] at H
        have c16b0 : decide (1000000000000 < a0_1) = true := decide_eq_true c16
        clear c16
        have H' := Aside0.mk H
        clear H
        have hcz17_0 : wc.cell? ⟨gb167, 0, none⟩ = some (.int .i64 a0_0) := lc BK167 0
        have hcz17_1 : wc.cell? ⟨gb167, 1, none⟩ = some (.int .i64 a0_1) := lc BK167 1
        have hcz17_2 : wc.cell? ⟨gb167, 2, none⟩ = some (.string a0_2) := lc BK167 2
        have hcz17_3 : wc.cell? ⟨gb167, 3, none⟩ = some (.int .i64 a0_3) := lc BK167 3
        have hcz17_4 : wc.cell? ⟨gb167, 4, none⟩ = some (.int .i64 a0_4) := lc BK167 4
        have hfz17_0 := fz BK167 0
        have hfz17_1 := fz BK167 1
        have hfz17_2 := fz BK167 2
        have hfz17_3 := fz BK167 3
        have hfz17_4 := fz BK167 4
        go_wp2
        go_meet
        case rel => exact ⟨_, (true), (by first | rfl | (simp; done) | (simp [*]; done)), H', ⟨by have := HJ2.out; first | omega | exact Nat.le_refl _⟩, ⟨aB BK167⟩, ⟨aH HB⟩⟩
       ·rw [if_neg c16] at H
        have c16b0 : decide (1000000000000 < a0_1) = false := decide_eq_false c16
        clear c16
        by_cases c18 : a0_4 < 0
        ·rw [if_pos c18] at H
         have c18b0 : decide (a0_4 < 0) = true := decide_eq_true c18
         clear c18
         have H' := Aside0.mk H
         clear H
         have hcz19_0 : wc.cell? ⟨gb167, 0, none⟩ = some (.int .i64 a0_0) := lc BK167 0
         have hcz19_1 : wc.cell? ⟨gb167, 1, none⟩ = some (.int .i64 a0_1) := lc BK167 1
         have hcz19_2 : wc.cell? ⟨gb167, 2, none⟩ = some (.string a0_2) := lc BK167 2
         have hcz19_3 : wc.cell? ⟨gb167, 3, none⟩ = some (.int .i64 a0_3) := lc BK167 3
         have hcz19_4 : wc.cell? ⟨gb167, 4, none⟩ = some (.int .i64 a0_4) := lc BK167 4
         have hfz19_0 := fz BK167 0
         have hfz19_1 := fz BK167 1
         have hfz19_2 := fz BK167 2
         have hfz19_3 := fz BK167 3
         have hfz19_4 := fz BK167 4
         go_wp2
         go_meet
         case rel => exact ⟨_, (true), (by first | rfl | (simp; done) | (simp [*]; done)), H', ⟨by have := HJ2.out; first | omega | exact Nat.le_refl _⟩, ⟨aB BK167⟩, ⟨aH HB⟩⟩
        ·rw [if_neg c18] at H
         have c18b0 : decide (a0_4 < 0) = false := decide_eq_false c18
         clear c18
         have H' := Aside0.mk H
         clear H
         have hcz20_0 : wc.cell? ⟨gb167, 0, none⟩ = some (.int .i64 a0_0) := lc BK167 0
         have hcz20_1 : wc.cell? ⟨gb167, 1, none⟩ = some (.int .i64 a0_1) := lc BK167 1
         have hcz20_2 : wc.cell? ⟨gb167, 2, none⟩ = some (.string a0_2) := lc BK167 2
         have hcz20_3 : wc.cell? ⟨gb167, 3, none⟩ = some (.int .i64 a0_3) := lc BK167 3
         have hcz20_4 : wc.cell? ⟨gb167, 4, none⟩ = some (.int .i64 a0_4) := lc BK167 4
         have hfz20_0 := fz BK167 0
         have hfz20_1 := fz BK167 1
         have hfz20_2 := fz BK167 2
         have hfz20_3 := fz BK167 3
         have hfz20_4 := fz BK167 4
         go_wp2
         go_meet
         case rel => exact ⟨_, (decide (a0_4 ≥ a1)), (by first | rfl | (simp; done) | (simp [*]; done)), H', ⟨by have := HJ2.out; first | omega | exact Nat.le_refl _⟩, ⟨aB BK167⟩, ⟨aH HB⟩⟩
     case rest =>
      clear HC13
      try clear c1
      try clear c2
      try clear p2
      try clear c5
      try clear c5b0
      try clear c7
      try clear c7b0
      try clear c9
      try clear c9b0
      try clear c12
      try clear c14
      try clear c14b0
      try clear c16
      try clear c16b0
      try clear c18
      try clear c18b0
      try clear hcz10_0
      try clear hcz10_1
      try clear hcz10_2
      try clear hcz10_3
      try clear hcz10_4
      try clear hcz11_0
      try clear hcz11_1
      try clear hcz11_2
      try clear hcz11_3
      try clear hcz11_4
      try clear hcz15_0
      try clear hcz15_1
      try clear hcz15_2
      try clear hcz15_3
      try clear hcz15_4
      try clear hcz17_0
      try clear hcz17_1
      try clear hcz17_2
      try clear hcz17_3
      try clear hcz17_4
      try clear hcz19_0
      try clear hcz19_1
      try clear hcz19_2
      try clear hcz19_3
      try clear hcz19_4
      try clear hcz20_0
      try clear hcz20_1
      try clear hcz20_2
      try clear hcz20_3
      try clear hcz20_4
      try clear hcz6_0
      try clear hcz6_1
      try clear hcz6_2
      try clear hcz6_3
      try clear hcz6_4
      try clear hcz8_0
      try clear hcz8_1
      try clear hcz8_2
      try clear hcz8_3
      try clear hcz8_4
      try clear hfz10_0
      try clear hfz10_1
      try clear hfz10_2
      try clear hfz10_3
      try clear hfz10_4
      try clear hfz11_0
      try clear hfz11_1
      try clear hfz11_2
      try clear hfz11_3
      try clear hfz11_4
      try clear hfz15_0
      try clear hfz15_1
      try clear hfz15_2
      try clear hfz15_3
      try clear hfz15_4
      try clear hfz17_0
      try clear hfz17_1
      try clear hfz17_2
      try clear hfz17_3
      try clear hfz17_4
      try clear hfz19_0
      try clear hfz19_1
      try clear hfz19_2
      try clear hfz19_3
      try clear hfz19_4
      try clear hfz20_0
      try clear hfz20_1
      try clear hfz20_2
      try clear hfz20_3
      try clear hfz20_4
      try clear hfz6_0
      try clear hfz6_1
      try clear hfz6_2
      try clear hfz6_3
      try clear hfz6_4
      try clear hfz8_0
      try clear hfz8_1
      try clear hfz8_2
      try clear hfz8_3
      try clear hfz8_4
      try clear p2
      obtain ⟨kq, x41_12, rfl, HA, HJ12, BK167, HB⟩ := hcut
      cases kq with
      | zero => exact absurd HA.out (by simp [valuation_charge.j1])
      | succ kj12 =>
       have H := HA.out
       clear HA
       simp only [valuation_charge.j1] at H
       by_cases c21 : x41_12 = true
       ·subst c21
        have H1 : (some 2) = some r := by rw [if_pos rfl] at H; exact H
        clear H
        have H := H1
        clear H1
        obtain rfl := Option.some.inj H
        simp only [Option.some.injEq, Prod.mk.injEq] at H
        obtain ⟨rfl⟩ := H
        go_wp2
        go_ret
        exact ⟨by first | rfl | (simp [errW_none, errW_some] <;> rfl) | (simp [*, errW_none, errW_some] <;> rfl) | (simp (disch := first | assumption | omega) only [Int.tdiv_eq_ediv_of_nonneg, Int.tmod_eq_emod_of_nonneg]; rfl), aH HB⟩
       ·replace c21 := Bool.eq_false_iff.mpr c21
        subst c21
        have H1 : (if a0_3 = 3 then (some 0) else (if a0_4 = 0 then (some 0) else (some 2))) = some r := by rw [if_neg (show ¬ (false = true) by decide)] at H; exact H
        clear H
        have H := H1
        clear H1
        by_cases c22 : a0_3 = 3
        ·rw [if_pos c22] at H
         have c22b0 : (a0_3 == 3) = true := beq_iff_eq.mpr c22
         have c22b1 : (a0_3 != 3) = false := bne_eq_false_iff_eq.mpr c22
         clear c22
         obtain rfl := Option.some.inj H
         simp only [Option.some.injEq, Prod.mk.injEq] at H
         obtain ⟨rfl⟩ := H
         have hcz23_0 : wc.cell? ⟨gb167, 0, none⟩ = some (.int .i64 a0_0) := lc BK167 0
         have hcz23_1 : wc.cell? ⟨gb167, 1, none⟩ = some (.int .i64 a0_1) := lc BK167 1
         have hcz23_2 : wc.cell? ⟨gb167, 2, none⟩ = some (.string a0_2) := lc BK167 2
         have hcz23_3 : wc.cell? ⟨gb167, 3, none⟩ = some (.int .i64 a0_3) := lc BK167 3
         have hcz23_4 : wc.cell? ⟨gb167, 4, none⟩ = some (.int .i64 a0_4) := lc BK167 4
         have hfz23_0 := fz BK167 0
         have hfz23_1 := fz BK167 1
         have hfz23_2 := fz BK167 2
         have hfz23_3 := fz BK167 3
         have hfz23_4 := fz BK167 4
         go_wp2
         go_ret
         exact ⟨by first | rfl | (simp [errW_none, errW_some] <;> rfl) | (simp [*, errW_none, errW_some] <;> rfl) | (simp (disch := first | assumption | omega) only [Int.tdiv_eq_ediv_of_nonneg, Int.tmod_eq_emod_of_nonneg]; rfl), aH HB⟩
        ·rw [if_neg c22] at H
         have c22b0 : (a0_3 == 3) = false := beq_eq_false_iff_ne.mpr c22
         have c22b1 : (a0_3 != 3) = true := bne_iff_ne.mpr c22
         by_cases c24 : a0_4 = 0
         ·rw [if_pos c24] at H
          have c24b0 : (a0_4 == 0) = true := beq_iff_eq.mpr c24
          have c24b1 : (a0_4 != 0) = false := bne_eq_false_iff_eq.mpr c24
          clear c24
          obtain rfl := Option.some.inj H
          simp only [Option.some.injEq, Prod.mk.injEq] at H
          obtain ⟨rfl⟩ := H
          have hcz25_0 : wc.cell? ⟨gb167, 0, none⟩ = some (.int .i64 a0_0) := lc BK167 0
          have hcz25_1 : wc.cell? ⟨gb167, 1, none⟩ = some (.int .i64 a0_1) := lc BK167 1
          have hcz25_2 : wc.cell? ⟨gb167, 2, none⟩ = some (.string a0_2) := lc BK167 2
          have hcz25_3 : wc.cell? ⟨gb167, 3, none⟩ = some (.int .i64 a0_3) := lc BK167 3
          have hcz25_4 : wc.cell? ⟨gb167, 4, none⟩ = some (.int .i64 a0_4) := lc BK167 4
          have hfz25_0 := fz BK167 0
          have hfz25_1 := fz BK167 1
          have hfz25_2 := fz BK167 2
          have hfz25_3 := fz BK167 3
          have hfz25_4 := fz BK167 4
          go_wp2
          go_ret
          exact ⟨by first | rfl | (simp [errW_none, errW_some] <;> rfl) | (simp [*, errW_none, errW_some] <;> rfl) | (simp (disch := first | assumption | omega) only [Int.tdiv_eq_ediv_of_nonneg, Int.tmod_eq_emod_of_nonneg]; rfl), aH HB⟩
         ·rw [if_neg c24] at H
          have c24b0 : (a0_4 == 0) = false := beq_eq_false_iff_ne.mpr c24
          have c24b1 : (a0_4 != 0) = true := bne_iff_ne.mpr c24
          obtain rfl := Option.some.inj H
          simp only [Option.some.injEq, Prod.mk.injEq] at H
          obtain ⟨rfl⟩ := H
          have hcz26_0 : wc.cell? ⟨gb167, 0, none⟩ = some (.int .i64 a0_0) := lc BK167 0
          have hcz26_1 : wc.cell? ⟨gb167, 1, none⟩ = some (.int .i64 a0_1) := lc BK167 1
          have hcz26_2 : wc.cell? ⟨gb167, 2, none⟩ = some (.string a0_2) := lc BK167 2
          have hcz26_3 : wc.cell? ⟨gb167, 3, none⟩ = some (.int .i64 a0_3) := lc BK167 3
          have hcz26_4 : wc.cell? ⟨gb167, 4, none⟩ = some (.int .i64 a0_4) := lc BK167 4
          have hfz26_0 := fz BK167 0
          have hfz26_1 := fz BK167 1
          have hfz26_2 := fz BK167 2
          have hfz26_3 := fz BK167 3
          have hfz26_4 := fz BK167 4
          go_wp2
          go_ret
          exact ⟨by first | rfl | (simp [errW_none, errW_some] <;> rfl) | (simp [*, errW_none, errW_some] <;> rfl) | (simp (disch := first | assumption | omega) only [Int.tdiv_eq_ediv_of_nonneg, Int.tmod_eq_emod_of_nonneg]; rfl), aH HB⟩

end Go.Proofs.Yteoieencagcgdaa.PX
end
section
namespace Go.Proofs.Yteoieencagcgdaa.PX
open Go.RowKit Go.Proofs.YteoieencagcgdaaW.PrintWords Go.Proofs.YteoieencagcgdaaW.PrintLast Go.Proofs.YteoieencagcgdaaW.PrintMore
attribute [local go_sem] max2_int min2_int max_two min_two max_three min_three max_four min_four
set_option linter.unusedVariables false
set_option linter.unusedSimpArgs false

mutual
def valuation_Validate.j0 : Nat → Bool → ByteArray → Int → List (S35) → List (S33) → Option (Int)
  | 0, _, _, _, _, _ => none
  | k + 1, x23, x169000, x169001, x169002, x169003 => if x23 = true then (some 8) else (if x169001 < 0 then (valuation_Validate.j1 k true x169000 x169001 x169002 x169003) else (valuation_Validate.j1 k (decide (x169001 > 36524)) x169000 x169001 x169002 x169003))
def valuation_Validate.j1 : Nat → Bool → ByteArray → Int → List (S35) → List (S33) → Option (Int)
  | 0, _, _, _, _, _ => none
  | k + 1, x31, x169000, x169001, x169002, x169003 => if x31 = true then (some 2) else (valuation_Validate.l0 k x169002 (x169002.length : Int) 0 x169000 x169001 x169002 x169003)
def valuation_Validate.l0 : Nat → List (S35) → Int → Int → ByteArray → Int → List (S35) → List (S33) → Option (Int)
  | 0, _, _, _, _, _, _, _ => none
  | k + 1, x33, x34, x35, x169000, x169001, x169002, x169003 => if x35 < x34 then (if 0 ≤ x35 then (if x35 < (x33.length : Int) then (if ((rd_T35 x33 x35).f0) < 0 then (some 2) else (if ((rd_T35 x33 x35).f0) > 1000000000000 then (some 2) else (if ((rd_T35 x33 x35).f1) < 0 then (some 2) else (if ((rd_T35 x33 x35).f1) > 1000000000 then (some 2) else (valuation_Validate.l0 k x33 x34 (wrap64 (x35 + 1)) x169000 x169001 x169002 x169003))))) else (none)) else (none)) else (valuation_Validate.l1 k x169003 (x169003.length : Int) 0 x169000 x169001 x169002 x169003)
def valuation_Validate.l1 : Nat → List (S33) → Int → Int → ByteArray → Int → List (S35) → List (S33) → Option (Int)
  | 0, _, _, _, _, _, _, _ => none
  | k + 1, x59, x60, x61, x169000, x169001, x169002, x169003 => if x61 < x60 then (if 0 ≤ x61 then (if x61 < (x59.length : Int) then ((valuation_charge.f k ((rd_T33 x59 x61).f0) ((rd_T33 x59 x61).f1) ((rd_T33 x59 x61).f2) ((rd_T33 x59 x61).f3) ((rd_T33 x59 x61).f4) (x169002.length : Int)).bind fun t173 => (if t173 = 0 then (valuation_Validate.l1 k x59 x60 (wrap64 (x61 + 1)) x169000 x169001 x169002 x169003) else (some t173))) else (none)) else (none)) else (some 0)
end
def valuation_Validate.f (k : Nat) (a0_0 : ByteArray) (a0_1 : Int) (l0_2 : List (S35)) (l0_3 : List (S33)) : Option (Int) := if (l0_2.length : Int) = 0 then (valuation_Validate.j0 k true a0_0 a0_1 l0_2 l0_3) else (if (l0_2.length : Int) > 100 then (valuation_Validate.j0 k true a0_0 a0_1 l0_2 l0_3) else (valuation_Validate.j0 k (decide ((l0_3.length : Int) > 50)) a0_0 a0_1 l0_2 l0_3))
set_option maxHeartbeats 8000000 in
set_option maxRecDepth 100000 in
theorem valuation_Validate.calls (k : Nat) (a0_0 : ByteArray) (a0_1 : Int) (A0_2 : Option Addr) (c0_2 : Nat) (l0_2 : List (S35)) (A0_3 : Option Addr) (c0_3 : Nat) (l0_3 : List (S33)) (r : Int) (w : World) (hr0_2 : Kd.C k35 w A0_2 l0_2.length l0_2) (hc0_2 : l0_2.length ≤ c0_2) (hr0_3 : Kd.C k33 w A0_3 l0_3.length l0_3) (hc0_3 : l0_3.length ≤ c0_3) (h : valuation_Validate.f k a0_0 a0_1 l0_2 l0_3 = some r) :
   Calls Try.prog 11 #[.agg #[.string a0_0, .int .i64 a0_1, .slice A0_2 l0_2.length c0_2, .slice A0_3 l0_3.length c0_3]] w fun e w' => e = .returned (.int .i64 r) ∧ Below w.heap.size w w' := by
  have hu25 := Try.underlying25
  have hu35 := Try.underlying35
  have hu33 := Try.underlying33
  have HR0_2 := Aside0.mk hr0_2
  have HC0_2 := Aside0.mk hc0_2
  clear hr0_2 hc0_2
  have HR0_3 := Aside0.mk hr0_3
  have HC0_3 := Aside0.mk hc0_3
  clear hr0_3 hc0_3
  have HB := Aside0.mk (Below.refl w.heap.size w)
  have H : (if (l0_2.length : Int) = 0 then (valuation_Validate.j0 k true a0_0 a0_1 l0_2 l0_3) else (if (l0_2.length : Int) > 100 then (valuation_Validate.j0 k true a0_0 a0_1 l0_2 l0_3) else (valuation_Validate.j0 k (decide ((l0_3.length : Int) > 50)) a0_0 a0_1 l0_2 l0_3))) = some r := h
  clear h
  have HC2 := Aside0.mk H
  clear H
  go_enter Try.func11, Try.ntmps11
  go_upto_region 1 with (first | ((with_reducible refine gate_dst (N := 1) rfl ?_); (try (refine gate_guard (by rfl) ?_; dsimp only)); refine boxA (N := 1) (cs := #[.string a0_0, .int .i64 a0_1, .slice A0_2 l0_2.length c0_2, .slice A0_3 l0_3.length c0_3]) (t := 25) ?_; intro gb168 hg w3 hbox hb; have n0_ := hB HB hb; have n1_ := Aside0.mk (hbox); have n2_ := gW hg HB; have n3_ := gW hg HB; clear HB; have HB := n0_; have BK168 := n1_; have GW168 := n2_; have GE168 := n3_; clear n0_ n1_ n2_ n3_; clear hb hbox hg))
  (try simp only [Act.put, List.setIfInBounds_toArray, List.set_cons_zero, List.set_cons_succ])
  go_cut [23] (fun v23 wc => ∃ (kq : Nat) (x23_1 : Bool), v23 = .bool x23_1 ∧ Aside0 (valuation_Validate.j0 kq x23_1 a0_0 a0_1 l0_2 l0_3 = some r) ∧ Aside0 (kq ≤ k) ∧ Aside0 (wc.heap[gb168]? = some (.cells #[.string a0_0, .int .i64 a0_1, (.slice A0_2 l0_2.length c0_2), (.slice A0_3 l0_3.length c0_3)] 25 (0, 0))) ∧ Aside0 (Below w.heap.size w wc))
  case first =>
   have H := HC2.out
   clear HC2
   by_cases c4 : (l0_2.length : Int) = 0
   ·rw [if_pos c4] at H
    have c4b0 : ((l0_2.length : Int) == 0) = true := beq_iff_eq.mpr c4
    have c4b1 : ((l0_2.length : Int) != 0) = false := bne_eq_false_iff_eq.mpr c4
    clear c4
    (first | rw [c4b0] | (simp only [i64_w, i32_w]; rw [c4b0]) | skip)
    have H' := Aside0.mk H
    clear H
    have hcz5_0 : w3.cell? ⟨gb168, 0, none⟩ = some (.string a0_0) := lc BK168 0
    have hcz5_1 : w3.cell? ⟨gb168, 1, none⟩ = some (.int .i64 a0_1) := lc BK168 1
    have hcz5_2 : w3.cell? ⟨gb168, 2, none⟩ = some (.slice A0_2 l0_2.length c0_2) := lc BK168 2
    have hcz5_3 : w3.cell? ⟨gb168, 3, none⟩ = some (.slice A0_3 l0_3.length c0_3) := lc BK168 3
    have hfz5_0 := fz BK168 0
    have hfz5_1 := fz BK168 1
    have hfz5_2 := fz BK168 2
    have hfz5_3 := fz BK168 3
    go_wp2
    go_meet
    case rel => exact ⟨_, (true), (by first | rfl | (simp; done) | (simp [*]; done)), H', ⟨by first | omega | exact Nat.le_refl _⟩, ⟨aB BK168⟩, ⟨aH HB⟩⟩
   ·rw [if_neg c4] at H
    have c4b0 : ((l0_2.length : Int) == 0) = false := beq_eq_false_iff_ne.mpr c4
    have c4b1 : ((l0_2.length : Int) != 0) = true := bne_iff_ne.mpr c4
    have c4b2 : ¬ (l0_2 = []) := fun h_ => c4 (by rw [h_]; rfl)
    (first | rw [c4b0] | (simp only [i64_w, i32_w]; rw [c4b0]) | skip)
    by_cases c6 : (l0_2.length : Int) > 100
    ·rw [if_pos c6] at H
     have c6b0 : decide (100 < (l0_2.length : Int)) = true := decide_eq_true c6
     have c6b1 : decide (100 < l0_2.length) = true := decide_eq_true (by omega)
     clear c6
     have H' := Aside0.mk H
     clear H
     have hcz7_0 : w3.cell? ⟨gb168, 0, none⟩ = some (.string a0_0) := lc BK168 0
     have hcz7_1 : w3.cell? ⟨gb168, 1, none⟩ = some (.int .i64 a0_1) := lc BK168 1
     have hcz7_2 : w3.cell? ⟨gb168, 2, none⟩ = some (.slice A0_2 l0_2.length c0_2) := lc BK168 2
     have hcz7_3 : w3.cell? ⟨gb168, 3, none⟩ = some (.slice A0_3 l0_3.length c0_3) := lc BK168 3
     have hfz7_0 := fz BK168 0
     have hfz7_1 := fz BK168 1
     have hfz7_2 := fz BK168 2
     have hfz7_3 := fz BK168 3
     go_wp2
     go_meet
     case rel => exact ⟨_, (true), (by first | rfl | (simp; done) | (simp [*]; done)), H', ⟨by first | omega | exact Nat.le_refl _⟩, ⟨aB BK168⟩, ⟨aH HB⟩⟩
    ·rw [if_neg c6] at H
     have c6b0 : decide (100 < (l0_2.length : Int)) = false := decide_eq_false c6
     have c6b1 : decide (100 < l0_2.length) = false := decide_eq_false (by omega)
     clear c6
     have H' := Aside0.mk H
     clear H
     have hcz8_0 : w3.cell? ⟨gb168, 0, none⟩ = some (.string a0_0) := lc BK168 0
     have hcz8_1 : w3.cell? ⟨gb168, 1, none⟩ = some (.int .i64 a0_1) := lc BK168 1
     have hcz8_2 : w3.cell? ⟨gb168, 2, none⟩ = some (.slice A0_2 l0_2.length c0_2) := lc BK168 2
     have hcz8_3 : w3.cell? ⟨gb168, 3, none⟩ = some (.slice A0_3 l0_3.length c0_3) := lc BK168 3
     have hfz8_0 := fz BK168 0
     have hfz8_1 := fz BK168 1
     have hfz8_2 := fz BK168 2
     have hfz8_3 := fz BK168 3
     go_wp2
     go_meet
     case rel => exact ⟨_, (decide ((l0_3.length : Int) > 50)), (by first | rfl | (simp; done) | (simp [*]; done)), H', ⟨by first | omega | exact Nat.le_refl _⟩, ⟨aB BK168⟩, ⟨aH HB⟩⟩
  case rest =>
   clear HC2
   try clear c1
   try clear p2
   try clear c4
   try clear c4b0
   try clear c4b1
   try clear c4b2
   try clear c6
   try clear c6b0
   try clear c6b1
   try clear hcz5_0
   try clear hcz5_1
   try clear hcz5_2
   try clear hcz5_3
   try clear hcz7_0
   try clear hcz7_1
   try clear hcz7_2
   try clear hcz7_3
   try clear hcz8_0
   try clear hcz8_1
   try clear hcz8_2
   try clear hcz8_3
   try clear hfz5_0
   try clear hfz5_1
   try clear hfz5_2
   try clear hfz5_3
   try clear hfz7_0
   try clear hfz7_1
   try clear hfz7_2
   try clear hfz7_3
   try clear hfz8_0
   try clear hfz8_1
   try clear hfz8_2
   try clear hfz8_3
   obtain ⟨kq, x23_1, rfl, HA, HJ1, BK168, HB⟩ := hcut
   cases kq with
   | zero => exact absurd HA.out (by simp [valuation_Validate.j0])
   | succ kj1 =>
    have H := HA.out
    clear HA
    simp only [valuation_Validate.j0] at H
    by_cases c9 : x23_1 = true
    ·subst c9
     have H1 : (some 8) = some r := by rw [if_pos rfl] at H; exact H
     clear H
     have H := H1
     clear H1
     obtain rfl := Option.some.inj H
     simp only [Option.some.injEq, Prod.mk.injEq] at H
     obtain ⟨rfl⟩ := H
     go_wp2
     go_ret
     exact ⟨by first | rfl | (simp [errW_none, errW_some] <;> rfl) | (simp [*, errW_none, errW_some] <;> rfl) | (simp (disch := first | assumption | omega) only [Int.tdiv_eq_ediv_of_nonneg, Int.tmod_eq_emod_of_nonneg]; rfl), aH HB⟩
    ·replace c9 := Bool.eq_false_iff.mpr c9
     subst c9
     have H1 : (if a0_1 < 0 then (valuation_Validate.j1 kj1 true a0_0 a0_1 l0_2 l0_3) else (valuation_Validate.j1 kj1 (decide (a0_1 > 36524)) a0_0 a0_1 l0_2 l0_3)) = some r := by rw [if_neg (show ¬ (false = true) by decide)] at H; exact H
     clear H
     have H := H1
     clear H1
     have HC10 := Aside0.mk H
     clear H
     go_upto_region 3 with (fail)
     go_cut [31] (fun v31 wc => ∃ (kq : Nat) (x31_9 : Bool), v31 = .bool x31_9 ∧ Aside0 (valuation_Validate.j1 kq x31_9 a0_0 a0_1 l0_2 l0_3 = some r) ∧ Aside0 (kq ≤ kj1) ∧ Aside0 (wc.heap[gb168]? = some (.cells #[.string a0_0, .int .i64 a0_1, (.slice A0_2 l0_2.length c0_2), (.slice A0_3 l0_3.length c0_3)] 25 (0, 0))) ∧ Aside0 (Below w.heap.size w wc))
     case first =>
      have H := HC10.out
      clear HC10
      by_cases c11 : a0_1 < 0
      ·rw [if_pos c11] at H
       have c11b0 : decide (a0_1 < 0) = true := decide_eq_true c11
       clear c11
       (first | rw [c11b0] | (simp only [i64_w, i32_w]; rw [c11b0]) | skip)
       have H' := Aside0.mk H
       clear H
       have hcz12_0 : wc.cell? ⟨gb168, 0, none⟩ = some (.string a0_0) := lc BK168 0
       have hcz12_1 : wc.cell? ⟨gb168, 1, none⟩ = some (.int .i64 a0_1) := lc BK168 1
       have hcz12_2 : wc.cell? ⟨gb168, 2, none⟩ = some (.slice A0_2 l0_2.length c0_2) := lc BK168 2
       have hcz12_3 : wc.cell? ⟨gb168, 3, none⟩ = some (.slice A0_3 l0_3.length c0_3) := lc BK168 3
       have hfz12_0 := fz BK168 0
       have hfz12_1 := fz BK168 1
       have hfz12_2 := fz BK168 2
       have hfz12_3 := fz BK168 3
       go_wp2
       go_meet
       case rel => exact ⟨_, (true), (by first | rfl | (simp; done) | (simp [*]; done)), H', ⟨by have := HJ1.out; first | omega | exact Nat.le_refl _⟩, ⟨aB BK168⟩, ⟨aH HB⟩⟩
      ·rw [if_neg c11] at H
       have c11b0 : decide (a0_1 < 0) = false := decide_eq_false c11
       clear c11
       (first | rw [c11b0] | (simp only [i64_w, i32_w]; rw [c11b0]) | skip)
       have H' := Aside0.mk H
       clear H
       have hcz13_0 : wc.cell? ⟨gb168, 0, none⟩ = some (.string a0_0) := lc BK168 0
       have hcz13_1 : wc.cell? ⟨gb168, 1, none⟩ = some (.int .i64 a0_1) := lc BK168 1
       have hcz13_2 : wc.cell? ⟨gb168, 2, none⟩ = some (.slice A0_2 l0_2.length c0_2) := lc BK168 2
       have hcz13_3 : wc.cell? ⟨gb168, 3, none⟩ = some (.slice A0_3 l0_3.length c0_3) := lc BK168 3
       have hfz13_0 := fz BK168 0
       have hfz13_1 := fz BK168 1
       have hfz13_2 := fz BK168 2
       have hfz13_3 := fz BK168 3
       go_wp2
       go_meet
       case rel => exact ⟨_, (decide (a0_1 > 36524)), (by first | rfl | (simp; done) | (simp [*]; done)), H', ⟨by have := HJ1.out; first | omega | exact Nat.le_refl _⟩, ⟨aB BK168⟩, ⟨aH HB⟩⟩
     case rest =>
      clear HC10
      try clear c1
      try clear p2
      try clear c4
      try clear c4b0
      try clear c4b1
      try clear c4b2
      try clear c6
      try clear c6b0
      try clear c6b1
      try clear c9
      try clear c11
      try clear c11b0
      try clear hcz12_0
      try clear hcz12_1
      try clear hcz12_2
      try clear hcz12_3
      try clear hcz13_0
      try clear hcz13_1
      try clear hcz13_2
      try clear hcz13_3
      try clear hcz5_0
      try clear hcz5_1
      try clear hcz5_2
      try clear hcz5_3
      try clear hcz7_0
      try clear hcz7_1
      try clear hcz7_2
      try clear hcz7_3
      try clear hcz8_0
      try clear hcz8_1
      try clear hcz8_2
      try clear hcz8_3
      try clear hfz12_0
      try clear hfz12_1
      try clear hfz12_2
      try clear hfz12_3
      try clear hfz13_0
      try clear hfz13_1
      try clear hfz13_2
      try clear hfz13_3
      try clear hfz5_0
      try clear hfz5_1
      try clear hfz5_2
      try clear hfz5_3
      try clear hfz7_0
      try clear hfz7_1
      try clear hfz7_2
      try clear hfz7_3
      try clear hfz8_0
      try clear hfz8_1
      try clear hfz8_2
      try clear hfz8_3
      try clear p2
      obtain ⟨kq, x31_9, rfl, HA, HJ9, BK168, HB⟩ := hcut
      cases kq with
      | zero => exact absurd HA.out (by simp [valuation_Validate.j1])
      | succ kj9 =>
       have H := HA.out
       clear HA
       simp only [valuation_Validate.j1] at H
       by_cases c14 : x31_9 = true
       ·subst c14
        have H1 : (some 2) = some r := by rw [if_pos rfl] at H; exact H
        clear H
        have H := H1
        clear H1
        obtain rfl := Option.some.inj H
        simp only [Option.some.injEq, Prod.mk.injEq] at H
        obtain ⟨rfl⟩ := H
        go_wp2
        go_ret
        exact ⟨by first | rfl | (simp [errW_none, errW_some] <;> rfl) | (simp [*, errW_none, errW_some] <;> rfl) | (simp (disch := first | assumption | omega) only [Int.tdiv_eq_ediv_of_nonneg, Int.tmod_eq_emod_of_nonneg]; rfl), aH HB⟩
       ·replace c14 := Bool.eq_false_iff.mpr c14
        subst c14
        have H1 : (valuation_Validate.l0 kj9 l0_2 (l0_2.length : Int) 0 a0_0 a0_1 l0_2 l0_3) = some r := by rw [if_neg (show ¬ (false = true) by decide)] at H; exact H
        clear H
        have H := H1
        clear H1
        have H' := Aside0.mk H
        clear H
        have hcz15_0 : wc.cell? ⟨gb168, 0, none⟩ = some (.string a0_0) := lc BK168 0
        have hcz15_1 : wc.cell? ⟨gb168, 1, none⟩ = some (.int .i64 a0_1) := lc BK168 1
        have hcz15_2 : wc.cell? ⟨gb168, 2, none⟩ = some (.slice A0_2 l0_2.length c0_2) := lc BK168 2
        have hcz15_3 : wc.cell? ⟨gb168, 3, none⟩ = some (.slice A0_3 l0_3.length c0_3) := lc BK168 3
        have hfz15_0 := fz BK168 0
        have hfz15_1 := fz BK168 1
        have hfz15_2 := fz BK168 2
        have hfz15_3 := fz BK168 3
        go_wp2
        go_loopg [35] kj9 (fun kq v35 w' => ∃ (x35_3 : Int), v35 = .int .i64 x35_3 ∧ Aside0 (valuation_Validate.l0 kq l0_2 (l0_2.length : Int) x35_3 a0_0 a0_1 l0_2 l0_3 = some r) ∧ Aside0 (kq ≤ kj9) ∧ Aside0 (w'.heap[gb168]? = some (.cells #[.string a0_0, .int .i64 a0_1, (.slice A0_2 l0_2.length c0_2), (.slice A0_3 l0_3.length c0_3)] 25 (0, 0))) ∧ Aside0 (Below w.heap.size w w'))
        case atStart => exact ⟨(0), (by first | rfl | (simp; done) | (simp [*]; done)), H', ⟨Nat.le_refl _⟩, ⟨aB BK168⟩, ⟨aH HB⟩⟩
        case round =>
         clear H'
         try clear c1
         try clear p2
         try clear c4
         try clear c4b0
         try clear c4b1
         try clear c4b2
         try clear c6
         try clear c6b0
         try clear c6b1
         try clear c9
         try clear c11
         try clear c11b0
         try clear c14
         try clear hcz12_0
         try clear hcz12_1
         try clear hcz12_2
         try clear hcz12_3
         try clear hcz13_0
         try clear hcz13_1
         try clear hcz13_2
         try clear hcz13_3
         try clear hcz15_0
         try clear hcz15_1
         try clear hcz15_2
         try clear hcz15_3
         try clear hcz5_0
         try clear hcz5_1
         try clear hcz5_2
         try clear hcz5_3
         try clear hcz7_0
         try clear hcz7_1
         try clear hcz7_2
         try clear hcz7_3
         try clear hcz8_0
         try clear hcz8_1
         try clear hcz8_2
         try clear hcz8_3
         try clear hfz12_0
         try clear hfz12_1
         try clear hfz12_2
         try clear hfz12_3
         try clear hfz13_0
         try clear hfz13_1
         try clear hfz13_2
         try clear hfz13_3
         try clear hfz15_0
         try clear hfz15_1
         try clear hfz15_2
         try clear hfz15_3
         try clear hfz5_0
         try clear hfz5_1
         try clear hfz5_2
         try clear hfz5_3
         try clear hfz7_0
         try clear hfz7_1
         try clear hfz7_2
         try clear hfz7_3
         try clear hfz8_0
         try clear hfz8_1
         try clear hfz8_2
         try clear hfz8_3
         try clear p2
         obtain ⟨x35_3, rfl, HA, HK3, BK168, HB⟩ := hrel
         cases gk with
         | zero => exact absurd HA.out (by simp [valuation_Validate.l0])
         | succ k3 =>
          have H := HA.out
          clear HA
          simp only [valuation_Validate.l0] at H
          by_cases c16 : x35_3 < (l0_2.length : Int)
          ·rw [if_pos c16] at H
           have c16b0 : decide (x35_3 < (l0_2.length : Int)) = true := decide_eq_true c16
           clear c16
           by_cases c17 : 0 ≤ x35_3
           ·rw [if_pos c17] at H
            have c17b0 : decide (0 ≤ x35_3) = true := decide_eq_true c17
            clear c17
            by_cases c18 : x35_3 < (l0_2.length : Int)
            ·rw [if_pos c18] at H
             have c18b0 : decide (x35_3 < (l0_2.length : Int)) = true := decide_eq_true c18
             clear c18
             by_cases c19 : ((rd_T35 l0_2 x35_3).f0) < 0
             ·rw [if_pos c19] at H
              have c19b0 : decide (((rd_T35 l0_2 x35_3).f0) < 0) = true := decide_eq_true c19
              clear c19
              obtain rfl := Option.some.inj H
              simp only [Option.some.injEq, Prod.mk.injEq] at H
              obtain ⟨rfl⟩ := H
              have p169 : 0 ≤ (x35_3 : Int) := of_decide_eq_true (by first | (with_reducible assumption) | assumption)
              have q169 : x35_3 < (l0_2.length : Int) := of_decide_eq_true (by first | (with_reducible assumption) | assumption)
              obtain ⟨ad169, e169, hx169_0, hx169_1⟩ := at_T35 HR0_2.out x35_3 p169 q169
              cases e169
              replace hx169_0 := (HB.out.cell (World.block_lt_of_cell? w _ hx169_0)).trans hx169_0
              replace hx169_1 := (HB.out.cell (World.block_lt_of_cell? w _ hx169_1)).trans hx169_1
              replace p169 := eq_true p169
              replace q169 := eq_true q169
              go_wp2_with (first | ((with_reducible refine gate_dst (N := 4) rfl ?_); (try (refine gate_guard (by rfl) ?_; dsimp only)); refine boxA (N := 4) (cs := #[.int .i64 0, .int .i64 0]) (t := 35) ?_; intro gb170 hg w20 hbox hb; have n0_ := bB BK168 hb; have n1_ := hB HB hb; have n2_ := Aside0.mk (hbox); have n3_ := gW hg HB; have n4_ := gW hg HB; have n5_ := nL hg BK168; have n6_ := nG hg BK168; clear BK168; clear HB; have BK168 := n0_; have HB := n1_; have BK170 := n2_; have GW170 := n3_; have GE170 := n4_; have NB168_170 := n5_; have NB170_168 := n6_; clear n0_ n1_ n2_ n3_ n4_ n5_ n6_; clear hb hbox hg; have hnb21 := NB170_168.out; have hnc21 := NB168_170.out; have hcz22_0 : w20.cell? ⟨gb170, 0, none⟩ = some (.int .i64 0) := lc BK170 0; have hcz22_1 : w20.cell? ⟨gb170, 1, none⟩ = some (.int .i64 0) := lc BK170 1; have hfz22_0 := fz BK170 0; have hfz22_1 := fz BK170 1))
              go_ret
              exact ⟨by first | rfl | (simp [errW_none, errW_some] <;> rfl) | (simp [*, errW_none, errW_some] <;> rfl) | (simp (disch := first | assumption | omega) only [Int.tdiv_eq_ediv_of_nonneg, Int.tmod_eq_emod_of_nonneg]; rfl), aH HB⟩
             ·rw [if_neg c19] at H
              have c19b0 : decide (((rd_T35 l0_2 x35_3).f0) < 0) = false := decide_eq_false c19
              clear c19
              by_cases c23 : ((rd_T35 l0_2 x35_3).f0) > 1000000000000
              ·rw [if_pos c23] at H
               have c23b0 : decide (1000000000000 < ((rd_T35 l0_2 x35_3).f0)) = true := decide_eq_true c23
               clear c23
               obtain rfl := Option.some.inj H
               simp only [Option.some.injEq, Prod.mk.injEq] at H
               obtain ⟨rfl⟩ := H
               have p169 : 0 ≤ (x35_3 : Int) := of_decide_eq_true (by first | (with_reducible assumption) | assumption)
               have q169 : x35_3 < (l0_2.length : Int) := of_decide_eq_true (by first | (with_reducible assumption) | assumption)
               obtain ⟨ad169, e169, hx169_0, hx169_1⟩ := at_T35 HR0_2.out x35_3 p169 q169
               cases e169
               replace hx169_0 := (HB.out.cell (World.block_lt_of_cell? w _ hx169_0)).trans hx169_0
               replace hx169_1 := (HB.out.cell (World.block_lt_of_cell? w _ hx169_1)).trans hx169_1
               replace p169 := eq_true p169
               replace q169 := eq_true q169
               go_wp2_with (first | ((with_reducible refine gate_dst (N := 4) rfl ?_); (try (refine gate_guard (by rfl) ?_; dsimp only)); refine boxA (N := 4) (cs := #[.int .i64 0, .int .i64 0]) (t := 35) ?_; intro gb170 hg w24 hbox hb; have n0_ := bB BK168 hb; have n1_ := hB HB hb; have n2_ := Aside0.mk (hbox); have n3_ := gW hg HB; have n4_ := gW hg HB; have n5_ := nL hg BK168; have n6_ := nG hg BK168; clear BK168; clear HB; have BK168 := n0_; have HB := n1_; have BK170 := n2_; have GW170 := n3_; have GE170 := n4_; have NB168_170 := n5_; have NB170_168 := n6_; clear n0_ n1_ n2_ n3_ n4_ n5_ n6_; clear hb hbox hg; have hnb25 := NB170_168.out; have hnc25 := NB168_170.out; have hcz26_0 : w24.cell? ⟨gb170, 0, none⟩ = some (.int .i64 0) := lc BK170 0; have hcz26_1 : w24.cell? ⟨gb170, 1, none⟩ = some (.int .i64 0) := lc BK170 1; have hfz26_0 := fz BK170 0; have hfz26_1 := fz BK170 1))
               go_ret
               exact ⟨by first | rfl | (simp [errW_none, errW_some] <;> rfl) | (simp [*, errW_none, errW_some] <;> rfl) | (simp (disch := first | assumption | omega) only [Int.tdiv_eq_ediv_of_nonneg, Int.tmod_eq_emod_of_nonneg]; rfl), aH HB⟩
              ·rw [if_neg c23] at H
               have c23b0 : decide (1000000000000 < ((rd_T35 l0_2 x35_3).f0)) = false := decide_eq_false c23
               clear c23
               by_cases c27 : ((rd_T35 l0_2 x35_3).f1) < 0
               ·rw [if_pos c27] at H
                have c27b0 : decide (((rd_T35 l0_2 x35_3).f1) < 0) = true := decide_eq_true c27
                clear c27
                obtain rfl := Option.some.inj H
                simp only [Option.some.injEq, Prod.mk.injEq] at H
                obtain ⟨rfl⟩ := H
                have p169 : 0 ≤ (x35_3 : Int) := of_decide_eq_true (by first | (with_reducible assumption) | assumption)
                have q169 : x35_3 < (l0_2.length : Int) := of_decide_eq_true (by first | (with_reducible assumption) | assumption)
                obtain ⟨ad169, e169, hx169_0, hx169_1⟩ := at_T35 HR0_2.out x35_3 p169 q169
                cases e169
                replace hx169_0 := (HB.out.cell (World.block_lt_of_cell? w _ hx169_0)).trans hx169_0
                replace hx169_1 := (HB.out.cell (World.block_lt_of_cell? w _ hx169_1)).trans hx169_1
                replace p169 := eq_true p169
                replace q169 := eq_true q169
                go_wp2_with (first | ((with_reducible refine gate_dst (N := 4) rfl ?_); (try (refine gate_guard (by rfl) ?_; dsimp only)); refine boxA (N := 4) (cs := #[.int .i64 0, .int .i64 0]) (t := 35) ?_; intro gb170 hg w28 hbox hb; have n0_ := bB BK168 hb; have n1_ := hB HB hb; have n2_ := Aside0.mk (hbox); have n3_ := gW hg HB; have n4_ := gW hg HB; have n5_ := nL hg BK168; have n6_ := nG hg BK168; clear BK168; clear HB; have BK168 := n0_; have HB := n1_; have BK170 := n2_; have GW170 := n3_; have GE170 := n4_; have NB168_170 := n5_; have NB170_168 := n6_; clear n0_ n1_ n2_ n3_ n4_ n5_ n6_; clear hb hbox hg; have hnb29 := NB170_168.out; have hnc29 := NB168_170.out; have hcz30_0 : w28.cell? ⟨gb170, 0, none⟩ = some (.int .i64 0) := lc BK170 0; have hcz30_1 : w28.cell? ⟨gb170, 1, none⟩ = some (.int .i64 0) := lc BK170 1; have hfz30_0 := fz BK170 0; have hfz30_1 := fz BK170 1))
                go_ret
                exact ⟨by first | rfl | (simp [errW_none, errW_some] <;> rfl) | (simp [*, errW_none, errW_some] <;> rfl) | (simp (disch := first | assumption | omega) only [Int.tdiv_eq_ediv_of_nonneg, Int.tmod_eq_emod_of_nonneg]; rfl), aH HB⟩
               ·rw [if_neg c27] at H
                have c27b0 : decide (((rd_T35 l0_2 x35_3).f1) < 0) = false := decide_eq_false c27
                clear c27
                by_cases c31 : ((rd_T35 l0_2 x35_3).f1) > 1000000000
                ·rw [if_pos c31] at H
                 have c31b0 : decide (1000000000 < ((rd_T35 l0_2 x35_3).f1)) = true := decide_eq_true c31
                 clear c31
                 obtain rfl := Option.some.inj H
                 simp only [Option.some.injEq, Prod.mk.injEq] at H
                 obtain ⟨rfl⟩ := H
                 have p169 : 0 ≤ (x35_3 : Int) := of_decide_eq_true (by first | (with_reducible assumption) | assumption)
                 have q169 : x35_3 < (l0_2.length : Int) := of_decide_eq_true (by first | (with_reducible assumption) | assumption)
                 obtain ⟨ad169, e169, hx169_0, hx169_1⟩ := at_T35 HR0_2.out x35_3 p169 q169
                 cases e169
                 replace hx169_0 := (HB.out.cell (World.block_lt_of_cell? w _ hx169_0)).trans hx169_0
                 replace hx169_1 := (HB.out.cell (World.block_lt_of_cell? w _ hx169_1)).trans hx169_1
                 replace p169 := eq_true p169
                 replace q169 := eq_true q169
                 go_wp2_with (first | ((with_reducible refine gate_dst (N := 4) rfl ?_); (try (refine gate_guard (by rfl) ?_; dsimp only)); refine boxA (N := 4) (cs := #[.int .i64 0, .int .i64 0]) (t := 35) ?_; intro gb170 hg w32 hbox hb; have n0_ := bB BK168 hb; have n1_ := hB HB hb; have n2_ := Aside0.mk (hbox); have n3_ := gW hg HB; have n4_ := gW hg HB; have n5_ := nL hg BK168; have n6_ := nG hg BK168; clear BK168; clear HB; have BK168 := n0_; have HB := n1_; have BK170 := n2_; have GW170 := n3_; have GE170 := n4_; have NB168_170 := n5_; have NB170_168 := n6_; clear n0_ n1_ n2_ n3_ n4_ n5_ n6_; clear hb hbox hg; have hnb33 := NB170_168.out; have hnc33 := NB168_170.out; have hcz34_0 : w32.cell? ⟨gb170, 0, none⟩ = some (.int .i64 0) := lc BK170 0; have hcz34_1 : w32.cell? ⟨gb170, 1, none⟩ = some (.int .i64 0) := lc BK170 1; have hfz34_0 := fz BK170 0; have hfz34_1 := fz BK170 1))
                 go_ret
                 exact ⟨by first | rfl | (simp [errW_none, errW_some] <;> rfl) | (simp [*, errW_none, errW_some] <;> rfl) | (simp (disch := first | assumption | omega) only [Int.tdiv_eq_ediv_of_nonneg, Int.tmod_eq_emod_of_nonneg]; rfl), aH HB⟩
                ·rw [if_neg c31] at H
                 have c31b0 : decide (1000000000 < ((rd_T35 l0_2 x35_3).f1)) = false := decide_eq_false c31
                 clear c31
                 have H' := Aside0.mk H
                 clear H
                 have p169 : 0 ≤ (x35_3 : Int) := of_decide_eq_true (by first | (with_reducible assumption) | assumption)
                 have q169 : x35_3 < (l0_2.length : Int) := of_decide_eq_true (by first | (with_reducible assumption) | assumption)
                 obtain ⟨ad169, e169, hx169_0, hx169_1⟩ := at_T35 HR0_2.out x35_3 p169 q169
                 cases e169
                 replace hx169_0 := (HB.out.cell (World.block_lt_of_cell? w _ hx169_0)).trans hx169_0
                 replace hx169_1 := (HB.out.cell (World.block_lt_of_cell? w _ hx169_1)).trans hx169_1
                 replace p169 := eq_true p169
                 replace q169 := eq_true q169
                 go_wp2_with (first | ((with_reducible refine gate_dst (N := 4) rfl ?_); (try (refine gate_guard (by rfl) ?_; dsimp only)); refine boxA (N := 4) (cs := #[.int .i64 0, .int .i64 0]) (t := 35) ?_; intro gb170 hg w35 hbox hb; have n0_ := bB BK168 hb; have n1_ := hB HB hb; have n2_ := Aside0.mk (hbox); have n3_ := gW hg HB; have n4_ := gW hg HB; have n5_ := nL hg BK168; have n6_ := nG hg BK168; clear BK168; clear HB; have BK168 := n0_; have HB := n1_; have BK170 := n2_; have GW170 := n3_; have GE170 := n4_; have NB168_170 := n5_; have NB170_168 := n6_; clear n0_ n1_ n2_ n3_ n4_ n5_ n6_; clear hb hbox hg; have hnb36 := NB170_168.out; have hnc36 := NB168_170.out; have hcz37_0 : w35.cell? ⟨gb170, 0, none⟩ = some (.int .i64 0) := lc BK170 0; have hcz37_1 : w35.cell? ⟨gb170, 1, none⟩ = some (.int .i64 0) := lc BK170 1; have hfz37_0 := fz BK170 0; have hfz37_1 := fz BK170 1))
                 go_roundg k3
                 case measure => have := HJ1.out; have := HJ9.out; have := HK3.out; omega
                 case rel => exact ⟨(wrap64 (x35_3 + 1)), (by first | rfl | (simp; done) | (simp [*]; done)), H', ⟨by have := HJ1.out; have := HJ9.out; have := HK3.out; omega⟩, ⟨by (with_reducible repeat (first | refine blk_drewN ?_ _ | refine blk_drew ?_ | refine blk_alloc ?_ _)); refine blk_far ?_ NB168_170.out _; (with_reducible repeat (first | refine blk_drewN ?_ _ | refine blk_drew ?_ | refine blk_alloc ?_ _)); refine blk_far ?_ NB168_170.out _; (with_reducible repeat (first | refine blk_drewN ?_ _ | refine blk_drew ?_ | refine blk_alloc ?_ _)); exact BK168.out⟩, ⟨aH HB⟩⟩
            ·rw [if_neg c18] at H
             exact absurd H (by simp)
           ·rw [if_neg c17] at H
            exact absurd H (by simp)
          ·rw [if_neg c16] at H
           have c16b0 : decide (x35_3 < (l0_2.length : Int)) = false := decide_eq_false c16
           clear c16
           have H' := Aside0.mk H
           clear H
           have hcz38_0 : wr.cell? ⟨gb168, 0, none⟩ = some (.string a0_0) := lc BK168 0
           have hcz38_1 : wr.cell? ⟨gb168, 1, none⟩ = some (.int .i64 a0_1) := lc BK168 1
           have hcz38_2 : wr.cell? ⟨gb168, 2, none⟩ = some (.slice A0_2 l0_2.length c0_2) := lc BK168 2
           have hcz38_3 : wr.cell? ⟨gb168, 3, none⟩ = some (.slice A0_3 l0_3.length c0_3) := lc BK168 3
           have hfz38_0 := fz BK168 0
           have hfz38_1 := fz BK168 1
           have hfz38_2 := fz BK168 2
           have hfz38_3 := fz BK168 3
           go_wp2
           go_loopg [61] k3 (fun kq v61 w' => ∃ (x61_4 : Int), v61 = .int .i64 x61_4 ∧ Aside0 (valuation_Validate.l1 kq l0_3 (l0_3.length : Int) x61_4 a0_0 a0_1 l0_2 l0_3 = some r) ∧ Aside0 (kq ≤ k3) ∧ Aside0 (w'.heap[gb168]? = some (.cells #[.string a0_0, .int .i64 a0_1, (.slice A0_2 l0_2.length c0_2), (.slice A0_3 l0_3.length c0_3)] 25 (0, 0))) ∧ Aside0 (Below w.heap.size w w'))
           case atStart => exact ⟨(0), (by first | rfl | (simp; done) | (simp [*]; done)), H', ⟨Nat.le_refl _⟩, ⟨aB BK168⟩, ⟨aH HB⟩⟩
           case round =>
            clear H'
            try clear c1
            try clear p1
            try clear q1
            try clear hx1
            try clear c2
            try clear p2
            try clear c3
            try clear c4
            try clear c4b0
            try clear c4b1
            try clear c4b2
            try clear c6
            try clear c6b0
            try clear c6b1
            try clear p6
            try clear c9
            try clear c11
            try clear c11b0
            try clear c14
            try clear c16
            try clear c16b0
            try clear p16
            try clear q16
            try clear hx16
            try clear c17
            try clear c17b0
            try clear c18
            try clear c18b0
            try clear c19
            try clear c19b0
            try clear c21
            try clear c23
            try clear c23b0
            try clear c25
            try clear c27
            try clear c27b0
            try clear c29
            try clear c31
            try clear c31b0
            try clear c33
            try clear c36
            try clear hcz12_0
            try clear hcz12_1
            try clear hcz12_2
            try clear hcz12_3
            try clear hcz13_0
            try clear hcz13_1
            try clear hcz13_2
            try clear hcz13_3
            try clear hcz15_0
            try clear hcz15_1
            try clear hcz15_2
            try clear hcz15_3
            try clear hcz22_0
            try clear hcz22_1
            try clear hcz26_0
            try clear hcz26_1
            try clear hcz30_0
            try clear hcz30_1
            try clear hcz34_0
            try clear hcz34_1
            try clear hcz37_0
            try clear hcz37_1
            try clear hcz38_0
            try clear hcz38_1
            try clear hcz38_2
            try clear hcz38_3
            try clear hcz5_0
            try clear hcz5_1
            try clear hcz5_2
            try clear hcz5_3
            try clear hcz7_0
            try clear hcz7_1
            try clear hcz7_2
            try clear hcz7_3
            try clear hcz8_0
            try clear hcz8_1
            try clear hcz8_2
            try clear hcz8_3
            try clear hfz12_0
            try clear hfz12_1
            try clear hfz12_2
            try clear hfz12_3
            try clear hfz13_0
            try clear hfz13_1
            try clear hfz13_2
            try clear hfz13_3
            try clear hfz15_0
            try clear hfz15_1
            try clear hfz15_2
            try clear hfz15_3
            try clear hfz22_0
            try clear hfz22_1
            try clear hfz26_0
            try clear hfz26_1
            try clear hfz30_0
            try clear hfz30_1
            try clear hfz34_0
            try clear hfz34_1
            try clear hfz37_0
            try clear hfz37_1
            try clear hfz38_0
            try clear hfz38_1
            try clear hfz38_2
            try clear hfz38_3
            try clear hfz5_0
            try clear hfz5_1
            try clear hfz5_2
            try clear hfz5_3
            try clear hfz7_0
            try clear hfz7_1
            try clear hfz7_2
            try clear hfz7_3
            try clear hfz8_0
            try clear hfz8_1
            try clear hfz8_2
            try clear hfz8_3
            try clear hx169_0
            try clear hx169_1
            try clear p169
            try clear p2
            try clear q169
            obtain ⟨x61_4, rfl, HA, HK4, BK168, HB⟩ := hrel
            cases gk with
            | zero => exact absurd HA.out (by simp [valuation_Validate.l1])
            | succ k4 =>
             have H := HA.out
             clear HA
             simp only [valuation_Validate.l1] at H
             by_cases c39 : x61_4 < (l0_3.length : Int)
             ·rw [if_pos c39] at H
              have c39b0 : decide (x61_4 < (l0_3.length : Int)) = true := decide_eq_true c39
              clear c39
              by_cases c40 : 0 ≤ x61_4
              ·rw [if_pos c40] at H
               have c40b0 : decide (0 ≤ x61_4) = true := decide_eq_true c40
               clear c40
               by_cases c41 : x61_4 < (l0_3.length : Int)
               ·rw [if_pos c41] at H
                have c41b0 : decide (x61_4 < (l0_3.length : Int)) = true := decide_eq_true c41
                clear c41
                replace H := Option.bind_eq_some_iff.mp H
                obtain ⟨t173, A420, H⟩ := H
                replace H : (if t173 = 0 then (valuation_Validate.l1 k4 l0_3 (l0_3.length : Int) (wrap64 (x61_4 + 1)) a0_0 a0_1 l0_2 l0_3) else (some t173)) = some r := H
                have A42 := Aside0.mk A420
                clear A420
                by_cases c43 : t173 = 0
                ·rw [if_pos c43] at H
                 have c43b0 : (t173 == 0) = true := beq_iff_eq.mpr c43
                 have c43b1 : (t173 != 0) = false := bne_eq_false_iff_eq.mpr c43
                 clear c43
                 have H' := Aside0.mk H
                 clear H
                 have p171 : 0 ≤ (x61_4 : Int) := of_decide_eq_true (by first | (with_reducible assumption) | assumption)
                 have q171 : x61_4 < (l0_3.length : Int) := of_decide_eq_true (by first | (with_reducible assumption) | assumption)
                 obtain ⟨ad171, e171, hx171_0, hx171_1, hx171_2, hx171_3, hx171_4⟩ := at_T33 HR0_3.out x61_4 p171 q171
                 cases e171
                 replace hx171_0 := (HB.out.cell (World.block_lt_of_cell? w _ hx171_0)).trans hx171_0
                 replace hx171_1 := (HB.out.cell (World.block_lt_of_cell? w _ hx171_1)).trans hx171_1
                 replace hx171_2 := (HB.out.cell (World.block_lt_of_cell? w _ hx171_2)).trans hx171_2
                 replace hx171_3 := (HB.out.cell (World.block_lt_of_cell? w _ hx171_3)).trans hx171_3
                 replace hx171_4 := (HB.out.cell (World.block_lt_of_cell? w _ hx171_4)).trans hx171_4
                 replace p171 := eq_true p171
                 replace q171 := eq_true q171
                 go_wp2_with (first | ((with_reducible refine gate_dst (N := 6) rfl ?_); (try (refine gate_guard (by rfl) ?_; dsimp only)); refine boxA (N := 6) (cs := #[.int .i64 0, .int .i64 0, .string (⟨#[]⟩ : ByteArray), .int .i64 0, .int .i64 0]) (t := 33) ?_; intro gb172 hg w44 hbox hb; have n0_ := bB BK168 hb; have n1_ := hB HB hb; have n2_ := Aside0.mk (hbox); have n3_ := gW hg HB; have n4_ := gW hg HB; have n5_ := nL hg BK168; have n6_ := nG hg BK168; clear BK168; clear HB; have BK168 := n0_; have HB := n1_; have BK172 := n2_; have GW172 := n3_; have GE172 := n4_; have NB168_172 := n5_; have NB172_168 := n6_; clear n0_ n1_ n2_ n3_ n4_ n5_ n6_; clear hb hbox hg; have hnb45 := NB172_168.out; have hnc45 := NB168_172.out; have hcz46_0 : w44.cell? ⟨gb172, 0, none⟩ = some (.int .i64 0) := lc BK172 0; have hcz46_1 : w44.cell? ⟨gb172, 1, none⟩ = some (.int .i64 0) := lc BK172 1; have hcz46_2 : w44.cell? ⟨gb172, 2, none⟩ = some (.string (⟨#[]⟩ : ByteArray)) := lc BK172 2; have hcz46_3 : w44.cell? ⟨gb172, 3, none⟩ = some (.int .i64 0) := lc BK172 3; have hcz46_4 : w44.cell? ⟨gb172, 4, none⟩ = some (.int .i64 0) := lc BK172 4; have hfz46_0 := fz BK172 0; have hfz46_1 := fz BK172 1; have hfz46_2 := fz BK172 2; have hfz46_3 := fz BK172 3; have hfz46_4 := fz BK172 4; have hcz47_0 : w44.cell? ⟨gb168, 0, none⟩ = some (.string a0_0) := lc BK168 0; have hcz47_1 : w44.cell? ⟨gb168, 1, none⟩ = some (.int .i64 a0_1) := lc BK168 1; have hcz47_2 : w44.cell? ⟨gb168, 2, none⟩ = some (.slice A0_2 l0_2.length c0_2) := lc BK168 2; have hcz47_3 : w44.cell? ⟨gb168, 3, none⟩ = some (.slice (some ad171) l0_3.length c0_3) := lc BK168 3; have hfz47_0 := fz BK168 0; have hfz47_1 := fz BK168 1; have hfz47_2 := fz BK168 2; have hfz47_3 := fz BK168 3) | ((with_reducible refine gate_callee (f := 25) rfl ?_); refine goA (some 69) Try.func25 #[.agg #[.int .i64 ((rd_T33 l0_3 x61_4).f0), .int .i64 ((rd_T33 l0_3 x61_4).f1), .string ((rd_T33 l0_3 x61_4).f2), .int .i64 ((rd_T33 l0_3 x61_4).f3), .int .i64 ((rd_T33 l0_3 x61_4).f4)], .int .i64 (l0_2.length : Int)] ?_; (with_reducible refine (valuation_charge.calls k4 ((rd_T33 l0_3 x61_4).f0) ((rd_T33 l0_3 x61_4).f1) ((rd_T33 l0_3 x61_4).f2) ((rd_T33 l0_3 x61_4).f3) ((rd_T33 l0_3 x61_4).f4) (l0_2.length : Int) t173 _ A42.out).mono ?_); rintro e w48 ⟨rfl, hb⟩; refine ⟨_, rfl, ?_⟩; have n0_ := Aside0.mk (blk_below (g := gb168) (o := .cells #[.string a0_0, .int .i64 a0_1, .slice A0_2 l0_2.length c0_2, .slice (some ad171) l0_3.length c0_3] 25 (0, 0)) (by (with_reducible repeat (first | refine blk_drewN ?_ _ | refine blk_drew ?_ | refine blk_alloc ?_ _)); refine blk_far ?_ NB168_172.out _; (with_reducible repeat (first | refine blk_drewN ?_ _ | refine blk_drew ?_ | refine blk_alloc ?_ _)); refine blk_far ?_ NB168_172.out _; (with_reducible repeat (first | refine blk_drewN ?_ _ | refine blk_drew ?_ | refine blk_alloc ?_ _)); refine blk_far ?_ NB168_172.out _; (with_reducible repeat (first | refine blk_drewN ?_ _ | refine blk_drew ?_ | refine blk_alloc ?_ _)); refine blk_far ?_ NB168_172.out _; (with_reducible repeat (first | refine blk_drewN ?_ _ | refine blk_drew ?_ | refine blk_alloc ?_ _)); refine blk_far ?_ NB168_172.out _; (with_reducible repeat (first | refine blk_drewN ?_ _ | refine blk_drew ?_ | refine blk_alloc ?_ _)); exact BK168.out) hb); have n1_ := Aside0.mk (blk_below (g := gb172) (o := .cells #[.int .i64 ((rd_T33 l0_3 x61_4).f0), .int .i64 ((rd_T33 l0_3 x61_4).f1), .string ((rd_T33 l0_3 x61_4).f2), .int .i64 ((rd_T33 l0_3 x61_4).f3), .int .i64 ((rd_T33 l0_3 x61_4).f4)] 33 (0, 0)) (by (with_reducible repeat (first | refine blk_drewN ?_ _ | refine blk_drew ?_ | refine blk_alloc ?_ _)); refine blk_put (cs := #[.int .i64 ((rd_T33 l0_3 x61_4).f0), .int .i64 ((rd_T33 l0_3 x61_4).f1), .string ((rd_T33 l0_3 x61_4).f2), .int .i64 ((rd_T33 l0_3 x61_4).f3), .int .i64 0]) ?_ 4 _ rfl; (with_reducible repeat (first | refine blk_drewN ?_ _ | refine blk_drew ?_ | refine blk_alloc ?_ _)); refine blk_put (cs := #[.int .i64 ((rd_T33 l0_3 x61_4).f0), .int .i64 ((rd_T33 l0_3 x61_4).f1), .string ((rd_T33 l0_3 x61_4).f2), .int .i64 0, .int .i64 0]) ?_ 3 _ rfl; (with_reducible repeat (first | refine blk_drewN ?_ _ | refine blk_drew ?_ | refine blk_alloc ?_ _)); refine blk_put (cs := #[.int .i64 ((rd_T33 l0_3 x61_4).f0), .int .i64 ((rd_T33 l0_3 x61_4).f1), .string (⟨#[]⟩ : ByteArray), .int .i64 0, .int .i64 0]) ?_ 2 _ rfl; (with_reducible repeat (first | refine blk_drewN ?_ _ | refine blk_drew ?_ | refine blk_alloc ?_ _)); refine blk_put (cs := #[.int .i64 ((rd_T33 l0_3 x61_4).f0), .int .i64 0, .string (⟨#[]⟩ : ByteArray), .int .i64 0, .int .i64 0]) ?_ 1 _ rfl; (with_reducible repeat (first | refine blk_drewN ?_ _ | refine blk_drew ?_ | refine blk_alloc ?_ _)); refine blk_put (cs := #[.int .i64 0, .int .i64 0, .string (⟨#[]⟩ : ByteArray), .int .i64 0, .int .i64 0]) ?_ 0 _ rfl; (with_reducible repeat (first | refine blk_drewN ?_ _ | refine blk_drew ?_ | refine blk_alloc ?_ _)); exact BK172.out) hb); have n2_ := hB HB hb; clear BK168; clear BK172; clear HB; have BK168 := n0_; have BK172 := n1_; have HB := n2_; clear n0_ n1_ n2_; clear hb))
                 go_roundg k4
                 case measure => have := HJ1.out; have := HJ9.out; have := HK3.out; have := HK4.out; omega
                 case rel => exact ⟨(wrap64 (x61_4 + 1)), (by first | rfl | (simp; done) | (simp [*]; done)), H', ⟨by have := HJ1.out; have := HJ9.out; have := HK3.out; have := HK4.out; omega⟩, ⟨aB BK168⟩, ⟨aH HB⟩⟩
                ·rw [if_neg c43] at H
                 have c43b0 : (t173 == 0) = false := beq_eq_false_iff_ne.mpr c43
                 have c43b1 : (t173 != 0) = true := bne_iff_ne.mpr c43
                 obtain rfl := Option.some.inj H
                 simp only [Option.some.injEq, Prod.mk.injEq] at H
                 obtain ⟨rfl⟩ := H
                 have p171 : 0 ≤ (x61_4 : Int) := of_decide_eq_true (by first | (with_reducible assumption) | assumption)
                 have q171 : x61_4 < (l0_3.length : Int) := of_decide_eq_true (by first | (with_reducible assumption) | assumption)
                 obtain ⟨ad171, e171, hx171_0, hx171_1, hx171_2, hx171_3, hx171_4⟩ := at_T33 HR0_3.out x61_4 p171 q171
                 cases e171
                 replace hx171_0 := (HB.out.cell (World.block_lt_of_cell? w _ hx171_0)).trans hx171_0
                 replace hx171_1 := (HB.out.cell (World.block_lt_of_cell? w _ hx171_1)).trans hx171_1
                 replace hx171_2 := (HB.out.cell (World.block_lt_of_cell? w _ hx171_2)).trans hx171_2
                 replace hx171_3 := (HB.out.cell (World.block_lt_of_cell? w _ hx171_3)).trans hx171_3
                 replace hx171_4 := (HB.out.cell (World.block_lt_of_cell? w _ hx171_4)).trans hx171_4
                 replace p171 := eq_true p171
                 replace q171 := eq_true q171
                 go_wp2_with (first | ((with_reducible refine gate_dst (N := 6) rfl ?_); (try (refine gate_guard (by rfl) ?_; dsimp only)); refine boxA (N := 6) (cs := #[.int .i64 0, .int .i64 0, .string (⟨#[]⟩ : ByteArray), .int .i64 0, .int .i64 0]) (t := 33) ?_; intro gb172 hg w49 hbox hb; have n0_ := bB BK168 hb; have n1_ := hB HB hb; have n2_ := Aside0.mk (hbox); have n3_ := gW hg HB; have n4_ := gW hg HB; have n5_ := nL hg BK168; have n6_ := nG hg BK168; clear BK168; clear HB; have BK168 := n0_; have HB := n1_; have BK172 := n2_; have GW172 := n3_; have GE172 := n4_; have NB168_172 := n5_; have NB172_168 := n6_; clear n0_ n1_ n2_ n3_ n4_ n5_ n6_; clear hb hbox hg; have hnb50 := NB172_168.out; have hnc50 := NB168_172.out; have hcz51_0 : w49.cell? ⟨gb172, 0, none⟩ = some (.int .i64 0) := lc BK172 0; have hcz51_1 : w49.cell? ⟨gb172, 1, none⟩ = some (.int .i64 0) := lc BK172 1; have hcz51_2 : w49.cell? ⟨gb172, 2, none⟩ = some (.string (⟨#[]⟩ : ByteArray)) := lc BK172 2; have hcz51_3 : w49.cell? ⟨gb172, 3, none⟩ = some (.int .i64 0) := lc BK172 3; have hcz51_4 : w49.cell? ⟨gb172, 4, none⟩ = some (.int .i64 0) := lc BK172 4; have hfz51_0 := fz BK172 0; have hfz51_1 := fz BK172 1; have hfz51_2 := fz BK172 2; have hfz51_3 := fz BK172 3; have hfz51_4 := fz BK172 4; have hcz52_0 : w49.cell? ⟨gb168, 0, none⟩ = some (.string a0_0) := lc BK168 0; have hcz52_1 : w49.cell? ⟨gb168, 1, none⟩ = some (.int .i64 a0_1) := lc BK168 1; have hcz52_2 : w49.cell? ⟨gb168, 2, none⟩ = some (.slice A0_2 l0_2.length c0_2) := lc BK168 2; have hcz52_3 : w49.cell? ⟨gb168, 3, none⟩ = some (.slice (some ad171) l0_3.length c0_3) := lc BK168 3; have hfz52_0 := fz BK168 0; have hfz52_1 := fz BK168 1; have hfz52_2 := fz BK168 2; have hfz52_3 := fz BK168 3) | ((with_reducible refine gate_callee (f := 25) rfl ?_); refine goA (some 69) Try.func25 #[.agg #[.int .i64 ((rd_T33 l0_3 x61_4).f0), .int .i64 ((rd_T33 l0_3 x61_4).f1), .string ((rd_T33 l0_3 x61_4).f2), .int .i64 ((rd_T33 l0_3 x61_4).f3), .int .i64 ((rd_T33 l0_3 x61_4).f4)], .int .i64 (l0_2.length : Int)] ?_; (with_reducible refine (valuation_charge.calls k4 ((rd_T33 l0_3 x61_4).f0) ((rd_T33 l0_3 x61_4).f1) ((rd_T33 l0_3 x61_4).f2) ((rd_T33 l0_3 x61_4).f3) ((rd_T33 l0_3 x61_4).f4) (l0_2.length : Int) t173 _ A42.out).mono ?_); rintro e w53 ⟨rfl, hb⟩; refine ⟨_, rfl, ?_⟩; have n0_ := Aside0.mk (blk_below (g := gb168) (o := .cells #[.string a0_0, .int .i64 a0_1, .slice A0_2 l0_2.length c0_2, .slice (some ad171) l0_3.length c0_3] 25 (0, 0)) (by (with_reducible repeat (first | refine blk_drewN ?_ _ | refine blk_drew ?_ | refine blk_alloc ?_ _)); refine blk_far ?_ NB168_172.out _; (with_reducible repeat (first | refine blk_drewN ?_ _ | refine blk_drew ?_ | refine blk_alloc ?_ _)); refine blk_far ?_ NB168_172.out _; (with_reducible repeat (first | refine blk_drewN ?_ _ | refine blk_drew ?_ | refine blk_alloc ?_ _)); refine blk_far ?_ NB168_172.out _; (with_reducible repeat (first | refine blk_drewN ?_ _ | refine blk_drew ?_ | refine blk_alloc ?_ _)); refine blk_far ?_ NB168_172.out _; (with_reducible repeat (first | refine blk_drewN ?_ _ | refine blk_drew ?_ | refine blk_alloc ?_ _)); refine blk_far ?_ NB168_172.out _; (with_reducible repeat (first | refine blk_drewN ?_ _ | refine blk_drew ?_ | refine blk_alloc ?_ _)); exact BK168.out) hb); have n1_ := Aside0.mk (blk_below (g := gb172) (o := .cells #[.int .i64 ((rd_T33 l0_3 x61_4).f0), .int .i64 ((rd_T33 l0_3 x61_4).f1), .string ((rd_T33 l0_3 x61_4).f2), .int .i64 ((rd_T33 l0_3 x61_4).f3), .int .i64 ((rd_T33 l0_3 x61_4).f4)] 33 (0, 0)) (by (with_reducible repeat (first | refine blk_drewN ?_ _ | refine blk_drew ?_ | refine blk_alloc ?_ _)); refine blk_put (cs := #[.int .i64 ((rd_T33 l0_3 x61_4).f0), .int .i64 ((rd_T33 l0_3 x61_4).f1), .string ((rd_T33 l0_3 x61_4).f2), .int .i64 ((rd_T33 l0_3 x61_4).f3), .int .i64 0]) ?_ 4 _ rfl; (with_reducible repeat (first | refine blk_drewN ?_ _ | refine blk_drew ?_ | refine blk_alloc ?_ _)); refine blk_put (cs := #[.int .i64 ((rd_T33 l0_3 x61_4).f0), .int .i64 ((rd_T33 l0_3 x61_4).f1), .string ((rd_T33 l0_3 x61_4).f2), .int .i64 0, .int .i64 0]) ?_ 3 _ rfl; (with_reducible repeat (first | refine blk_drewN ?_ _ | refine blk_drew ?_ | refine blk_alloc ?_ _)); refine blk_put (cs := #[.int .i64 ((rd_T33 l0_3 x61_4).f0), .int .i64 ((rd_T33 l0_3 x61_4).f1), .string (⟨#[]⟩ : ByteArray), .int .i64 0, .int .i64 0]) ?_ 2 _ rfl; (with_reducible repeat (first | refine blk_drewN ?_ _ | refine blk_drew ?_ | refine blk_alloc ?_ _)); refine blk_put (cs := #[.int .i64 ((rd_T33 l0_3 x61_4).f0), .int .i64 0, .string (⟨#[]⟩ : ByteArray), .int .i64 0, .int .i64 0]) ?_ 1 _ rfl; (with_reducible repeat (first | refine blk_drewN ?_ _ | refine blk_drew ?_ | refine blk_alloc ?_ _)); refine blk_put (cs := #[.int .i64 0, .int .i64 0, .string (⟨#[]⟩ : ByteArray), .int .i64 0, .int .i64 0]) ?_ 0 _ rfl; (with_reducible repeat (first | refine blk_drewN ?_ _ | refine blk_drew ?_ | refine blk_alloc ?_ _)); exact BK172.out) hb); have n2_ := hB HB hb; clear BK168; clear BK172; clear HB; have BK168 := n0_; have BK172 := n1_; have HB := n2_; clear n0_ n1_ n2_; clear hb))
                 go_ret
                 exact ⟨by first | rfl | (simp [errW_none, errW_some] <;> rfl) | (simp [*, errW_none, errW_some] <;> rfl) | (simp (disch := first | assumption | omega) only [Int.tdiv_eq_ediv_of_nonneg, Int.tmod_eq_emod_of_nonneg]; rfl), aH HB⟩
               ·rw [if_neg c41] at H
                exact absurd H (by simp)
              ·rw [if_neg c40] at H
               exact absurd H (by simp)
             ·rw [if_neg c39] at H
              have c39b0 : decide (x61_4 < (l0_3.length : Int)) = false := decide_eq_false c39
              clear c39
              obtain rfl := Option.some.inj H
              simp only [Option.some.injEq, Prod.mk.injEq] at H
              obtain ⟨rfl⟩ := H
              go_wp2
              go_ret
              exact ⟨by first | rfl | (simp [errW_none, errW_some] <;> rfl) | (simp [*, errW_none, errW_some] <;> rfl) | (simp (disch := first | assumption | omega) only [Int.tdiv_eq_ediv_of_nonneg, Int.tmod_eq_emod_of_nonneg]; rfl), aH HB⟩

end Go.Proofs.Yteoieencagcgdaa.PX
end
section
namespace Go.Proofs.Yteoieencagcgdaa.PX
open Go.RowKit Go.Proofs.YteoieencagcgdaaW.PrintWords Go.Proofs.YteoieencagcgdaaW.PrintLast Go.Proofs.YteoieencagcgdaaW.PrintMore
attribute [local go_sem] max2_int min2_int max_two min_two max_three min_three max_four min_four
set_option linter.unusedVariables false
set_option linter.unusedSimpArgs false

mutual
def valuation_checked.l0 : Nat → List Int → List Int → Int → Int → Option (List Int × Int)
  | 0, _, _, _, _ => none
  | k + 1, x0, x8, x9, x10 => if x10 < x9 then (if 0 ≤ x10 then (if x10 < (x8.length : Int) then (if (rd x8 x10) < 0 then (some (([] : List Int), 12)) else (valuation_checked.l0 k x0 x8 x9 (wrap64 (x10 + 1)))) else (none)) else (none)) else (valuation_checked.l1 k x0 x0 (x0.length : Int) 0)
def valuation_checked.l1 : Nat → List Int → List Int → Int → Int → Option (List Int × Int)
  | 0, _, _, _, _ => none
  | k + 1, x0, x17, x18, x19 => if x19 < x18 then (if 0 ≤ x19 then (if x19 < (x17.length : Int) then (if (rd x17 x19) > 1000000000000 then (some (([] : List Int), 3)) else (valuation_checked.l1 k x0 x17 x18 (wrap64 (x19 + 1)))) else (none)) else (none)) else (some (x0, 0))
end
def valuation_checked.f (k : Nat) (l0 : List Int) : Option (List Int × Int) := valuation_checked.l0 k l0 l0 (l0.length : Int) 0
set_option maxHeartbeats 8000000 in
set_option maxRecDepth 100000 in
theorem valuation_checked.calls (k : Nat) (P0_ : Nat → Prop) (u9000_ : Value) (l0 : List Int) (r1 : List Int) (r2 : Int) (w0 w : World) (hB : Below w0.heap.size w0 w) (ho0 : Kd.R (Kd.int .i64) 3 w w0.heap.size P0_ u9000_ l0) (h : valuation_checked.f k l0 = some (r1, r2)) :
   Calls Try.prog 34 #[u9000_] w fun e w' => ∃ v0_ : Value, e = .returned (.tuple #[v0_, .int .i64 r2]) ∧ Kd.R (Kd.int .i64) 3 w' w0.heap.size (fun k_ => (P0_ k_ ∨ w.heap.size ≤ k_)) v0_ r1 ∧ Below w0.heap.size w0 w' ∧ Kept w w' (fun k_ => P0_ k_) := by
  have HO0 := Aside0.mk (show Kd.R (Kd.int .i64) 3 w w0.heap.size (fun k_ => (P0_ k_ ∨ w.heap.size ≤ k_)) u9000_ l0 from Kd.R_mono ho0 (fun k_ hk => (.inl hk)))
  have HK := Aside0.mk (Kept.refl w (fun k_ => P0_ k_))
  have HW0 := Aside0.mk hB.size
  have HB := Aside0.mk hB
  clear hB
  have H : (valuation_checked.l0 k l0 l0 (l0.length : Int) 0) = some (r1, r2) := h
  clear h
  have H' := Aside0.mk H
  clear H
  obtain ⟨Ao2, co2, eo2⟩ := Kd.R_slice HO0.out
  subst eo2
  go_enter Try.func34, Try.ntmps34
  go_wp2
  go_loopg [10] k (fun kq v10 w' => ∃ (x10_1 : Int), v10 = .int .i64 x10_1 ∧ Aside0 (valuation_checked.l0 kq l0 l0 (l0.length : Int) x10_1 = some (r1, r2)) ∧ Aside0 (kq ≤ k) ∧ Aside0 (Kd.R (Kd.int .i64) 3 w' w0.heap.size (fun k_ => (P0_ k_ ∨ w.heap.size ≤ k_)) (.slice Ao2 l0.length co2) l0) ∧ Aside0 (Kd.R (Kd.int .i64) 3 w' w0.heap.size (fun k_ => (P0_ k_ ∨ w.heap.size ≤ k_)) (.slice Ao2 l0.length co2) l0) ∧ Aside0 (Kept w w' (fun k_ => P0_ k_)) ∧ Aside0 (Below w0.heap.size w0 w'))
  case atStart => exact ⟨(0), (by first | rfl | (simp; done) | (simp [*]; done)), H', ⟨Nat.le_refl _⟩, ⟨aR HO0⟩, ⟨aR HO0⟩, ⟨by repeat (first | (with_reducible first | exact HK.out | apply Kept.alloc | apply Kept.drewN | apply Kept.drew) | exact HK.out)⟩, ⟨aH HB⟩⟩
  case round =>
   clear H'
   try clear p2
   obtain ⟨x10_1, rfl, HA, HK1, HO_0, HO_8, HK, HB⟩ := hrel
   cases gk with
   | zero => exact absurd HA.out (by simp [valuation_checked.l0])
   | succ k1 =>
    have H := HA.out
    clear HA
    simp only [valuation_checked.l0] at H
    by_cases c3 : x10_1 < (l0.length : Int)
    ·rw [if_pos c3] at H
     have c3b0 : decide (x10_1 < (l0.length : Int)) = true := decide_eq_true c3
     clear c3
     by_cases c4 : 0 ≤ x10_1
     ·rw [if_pos c4] at H
      have c4b0 : decide (0 ≤ x10_1) = true := decide_eq_true c4
      clear c4
      by_cases c5 : x10_1 < (l0.length : Int)
      ·rw [if_pos c5] at H
       have c5b0 : decide (x10_1 < (l0.length : Int)) = true := decide_eq_true c5
       clear c5
       by_cases c6 : (rd l0 x10_1) < 0
       ·rw [if_pos c6] at H
        have c6b0 : decide ((rd l0 x10_1) < 0) = true := decide_eq_true c6
        clear c6
        simp only [Option.some.injEq, Prod.mk.injEq] at H
        obtain ⟨rfl, rfl⟩ := H
        have p233 : 0 ≤ (x10_1 : Int) := of_decide_eq_true (by first | (with_reducible assumption) | assumption)
        have q233 : x10_1 < (l0.length : Int) := of_decide_eq_true (by first | (with_reducible assumption) | assumption)
        obtain ⟨ad233, e233, hx233_0⟩ := Kd.at_int (Kd.R_reads' HO_8.out).2.2 x10_1 p233 q233
        cases e233
        replace p233 := eq_true p233
        replace q233 := eq_true q233
        go_wp2
        go_ret2
        exact ⟨_, by first | rfl | (simp [errW_none, errW_some] <;> rfl) | (simp [*, errW_none, errW_some] <;> rfl) | (simp (disch := first | assumption | omega) only [Int.tdiv_eq_ediv_of_nonneg, Int.tmod_eq_emod_of_nonneg]; rfl), by first | exact Kd.R_nil _ _ _ _ _ | exact Kd.N_nil _ _ _ _ _ | exact Kd.V_nil _ _ _ _ _ | exact Kd.Q_nil _ _ _ _ _ | exact Kd.S_nil _ _ _ _ _, aH HB, by repeat (first | (with_reducible first | exact HK.out | apply Kept.alloc | apply Kept.drewN | apply Kept.drew) | exact HK.out)⟩
       ·rw [if_neg c6] at H
        have c6b0 : decide ((rd l0 x10_1) < 0) = false := decide_eq_false c6
        clear c6
        have H' := Aside0.mk H
        clear H
        have p233 : 0 ≤ (x10_1 : Int) := of_decide_eq_true (by first | (with_reducible assumption) | assumption)
        have q233 : x10_1 < (l0.length : Int) := of_decide_eq_true (by first | (with_reducible assumption) | assumption)
        obtain ⟨ad233, e233, hx233_0⟩ := Kd.at_int (Kd.R_reads' HO_8.out).2.2 x10_1 p233 q233
        cases e233
        replace p233 := eq_true p233
        replace q233 := eq_true q233
        go_wp2
        go_roundg k1
        case measure => have := HK1.out; omega
        case rel => exact ⟨(wrap64 (x10_1 + 1)), (by first | rfl | (simp; done) | (simp [*]; done)), H', ⟨by have := HK1.out; omega⟩, ⟨aR HO_0⟩, ⟨aR HO_8⟩, ⟨by repeat (first | (with_reducible first | exact HK.out | apply Kept.alloc | apply Kept.drewN | apply Kept.drew) | exact HK.out)⟩, ⟨aH HB⟩⟩
      ·rw [if_neg c5] at H
       exact absurd H (by simp)
     ·rw [if_neg c4] at H
      exact absurd H (by simp)
    ·rw [if_neg c3] at H
     have c3b0 : decide (x10_1 < (l0.length : Int)) = false := decide_eq_false c3
     clear c3
     have H' := Aside0.mk H
     clear H
     go_wp2
     go_loopg [19] k1 (fun kq v19 w' => ∃ (x19_2 : Int), v19 = .int .i64 x19_2 ∧ Aside0 (valuation_checked.l1 kq l0 l0 (l0.length : Int) x19_2 = some (r1, r2)) ∧ Aside0 (kq ≤ k1) ∧ Aside0 (Kd.R (Kd.int .i64) 3 w' w0.heap.size (fun k_ => (P0_ k_ ∨ w.heap.size ≤ k_)) (.slice Ao2 l0.length co2) l0) ∧ Aside0 (Kd.R (Kd.int .i64) 3 w' w0.heap.size (fun k_ => (P0_ k_ ∨ w.heap.size ≤ k_)) (.slice Ao2 l0.length co2) l0) ∧ Aside0 (Kept w w' (fun k_ => P0_ k_)) ∧ Aside0 (Below w0.heap.size w0 w'))
     case atStart => exact ⟨(0), (by first | rfl | (simp; done) | (simp [*]; done)), H', ⟨Nat.le_refl _⟩, ⟨aR HO_0⟩, ⟨aR HO_0⟩, ⟨by repeat (first | (with_reducible first | exact HK.out | apply Kept.alloc | apply Kept.drewN | apply Kept.drew) | exact HK.out)⟩, ⟨aH HB⟩⟩
     case round =>
      clear H'
      try clear p2
      try clear q2
      try clear hx2
      try clear c3
      try clear c3b0
      try clear c4
      try clear c4b0
      try clear c5
      try clear c5b0
      try clear c6
      try clear c6b0
      try clear p6
      try clear hx233_0
      try clear p2
      try clear p233
      try clear q233
      obtain ⟨x19_2, rfl, HA, HK2, HO_0, HO_17, HK, HB⟩ := hrel
      cases gk with
      | zero => exact absurd HA.out (by simp [valuation_checked.l1])
      | succ k2 =>
       have H := HA.out
       clear HA
       simp only [valuation_checked.l1] at H
       by_cases c7 : x19_2 < (l0.length : Int)
       ·rw [if_pos c7] at H
        have c7b0 : decide (x19_2 < (l0.length : Int)) = true := decide_eq_true c7
        clear c7
        by_cases c8 : 0 ≤ x19_2
        ·rw [if_pos c8] at H
         have c8b0 : decide (0 ≤ x19_2) = true := decide_eq_true c8
         clear c8
         by_cases c9 : x19_2 < (l0.length : Int)
         ·rw [if_pos c9] at H
          have c9b0 : decide (x19_2 < (l0.length : Int)) = true := decide_eq_true c9
          clear c9
          by_cases c10 : (rd l0 x19_2) > 1000000000000
          ·rw [if_pos c10] at H
           have c10b0 : decide (1000000000000 < (rd l0 x19_2)) = true := decide_eq_true c10
           clear c10
           simp only [Option.some.injEq, Prod.mk.injEq] at H
           obtain ⟨rfl, rfl⟩ := H
           have p234 : 0 ≤ (x19_2 : Int) := of_decide_eq_true (by first | (with_reducible assumption) | assumption)
           have q234 : x19_2 < (l0.length : Int) := of_decide_eq_true (by first | (with_reducible assumption) | assumption)
           obtain ⟨ad234, e234, hx234_0⟩ := Kd.at_int (Kd.R_reads' HO_17.out).2.2 x19_2 p234 q234
           cases e234
           replace p234 := eq_true p234
           replace q234 := eq_true q234
           go_wp2
           go_ret2
           exact ⟨_, by first | rfl | (simp [errW_none, errW_some] <;> rfl) | (simp [*, errW_none, errW_some] <;> rfl) | (simp (disch := first | assumption | omega) only [Int.tdiv_eq_ediv_of_nonneg, Int.tmod_eq_emod_of_nonneg]; rfl), by first | exact Kd.R_nil _ _ _ _ _ | exact Kd.N_nil _ _ _ _ _ | exact Kd.V_nil _ _ _ _ _ | exact Kd.Q_nil _ _ _ _ _ | exact Kd.S_nil _ _ _ _ _, aH HB, by repeat (first | (with_reducible first | exact HK.out | apply Kept.alloc | apply Kept.drewN | apply Kept.drew) | exact HK.out)⟩
          ·rw [if_neg c10] at H
           have c10b0 : decide (1000000000000 < (rd l0 x19_2)) = false := decide_eq_false c10
           clear c10
           have H' := Aside0.mk H
           clear H
           have p234 : 0 ≤ (x19_2 : Int) := of_decide_eq_true (by first | (with_reducible assumption) | assumption)
           have q234 : x19_2 < (l0.length : Int) := of_decide_eq_true (by first | (with_reducible assumption) | assumption)
           obtain ⟨ad234, e234, hx234_0⟩ := Kd.at_int (Kd.R_reads' HO_17.out).2.2 x19_2 p234 q234
           cases e234
           replace p234 := eq_true p234
           replace q234 := eq_true q234
           go_wp2
           go_roundg k2
           case measure => have := HK1.out; have := HK2.out; omega
           case rel => exact ⟨(wrap64 (x19_2 + 1)), (by first | rfl | (simp; done) | (simp [*]; done)), H', ⟨by have := HK1.out; have := HK2.out; omega⟩, ⟨aR HO_0⟩, ⟨aR HO_17⟩, ⟨by repeat (first | (with_reducible first | exact HK.out | apply Kept.alloc | apply Kept.drewN | apply Kept.drew) | exact HK.out)⟩, ⟨aH HB⟩⟩
         ·rw [if_neg c9] at H
          exact absurd H (by simp)
        ·rw [if_neg c8] at H
         exact absurd H (by simp)
       ·rw [if_neg c7] at H
        have c7b0 : decide (x19_2 < (l0.length : Int)) = false := decide_eq_false c7
        clear c7
        simp only [Option.some.injEq, Prod.mk.injEq] at H
        obtain ⟨rfl, rfl⟩ := H
        go_wp2
        go_ret2
        exact ⟨_, by first | rfl | (simp [errW_none, errW_some] <;> rfl) | (simp [*, errW_none, errW_some] <;> rfl) | (simp (disch := first | assumption | omega) only [Int.tdiv_eq_ediv_of_nonneg, Int.tmod_eq_emod_of_nonneg]; rfl), aR HO_0, aH HB, by repeat (first | (with_reducible first | exact HK.out | apply Kept.alloc | apply Kept.drewN | apply Kept.drew) | exact HK.out)⟩

end Go.Proofs.Yteoieencagcgdaa.PX
end
section
namespace Go.Proofs.Yteoieencagcgdaa.PX
open Go.RowKit Go.Proofs.YteoieencagcgdaaW.PrintWords Go.Proofs.YteoieencagcgdaaW.PrintLast Go.Proofs.YteoieencagcgdaaW.PrintMore
attribute [local go_sem] max2_int min2_int max_two min_two max_three min_three max_four min_four
set_option linter.unusedVariables false
set_option linter.unusedSimpArgs false

theorem RowAt.lt {W : World} {g n : Nat} {t : TypeId} {f : Nat → Value} (h : RowAt W g n t f) : g < W.heap.size := by
  obtain ⟨cur, _, hb, _⟩ := h
  exact blk_lt hb
theorem range_map35 (l : List S35) (F : Nat → Int) (G : S35 → Int) (h : ∀ p, p < l.length → F p = G (rd_T35 l (p : Int))) : (List.range l.length).map F = l.map G := by
  apply List.ext_getElem (by simp)
  intro i h1 h2
  have h3 : i < l.length := by simpa using h1
  rw [List.getElem_map, List.getElem_map, List.getElem_range, h i h3]
  unfold rd_T35
  rw [Int.toNat_natCast, List.getD_eq_getElem?_getD, List.getElem?_eq_getElem h3]
  rfl
structure PW (w0 : World) (gp gw n : Nat) (P Q : Nat → Int) (W : World) : Prop where
  rp : RowAt W gp n 3 (fun i => .int .i64 (P i))
  rq : RowAt W gw n 3 (fun i => .int .i64 (Q i))
  bel : Below w0.heap.size w0 W
theorem PW.below {w0 W W1 : World} {gp gw n : Nat} {P Q : Nat → Int} (h : PW w0 gp gw n P Q W) (hb : Below W.heap.size W W1) : PW w0 gp gw n P Q W1 := ⟨h.rp.below hb, h.rq.below hb, below_step h.bel hb⟩
theorem PW.drewN {w0 W : World} {gp gw n : Nat} {P Q : Nat → Int} (h : PW w0 gp gw n P Q W) (m : Nat) : PW w0 gp gw n P Q (W.drewN m) := ⟨h.rp, h.rq, pw_below_drewN h.bel m⟩
theorem PW.setP {w0 W : World} {gp gw n : Nat} {P Q : Nat → Int} (h : PW w0 gp gw n P Q W) (hl : w0.heap.size ≤ gp) (hne : gp ≠ gw) (i : Nat) (hi : i < n) (v : Int) : PW w0 gp gw n (upd P i v) Q (W.setCell ⟨gp, i, none⟩ (.int .i64 v)) :=
  ⟨(h.rp.set i hi _).congr (fun k _ => upd_val _ _ _ _ _), h.rq.far (p := ⟨gp, i, none⟩) hne.symm _, below_set h.bel hl⟩
theorem PW.setQ {w0 W : World} {gp gw n : Nat} {P Q : Nat → Int} (h : PW w0 gp gw n P Q W) (hl : w0.heap.size ≤ gw) (hne : gp ≠ gw) (i : Nat) (hi : i < n) (v : Int) : PW w0 gp gw n P (upd Q i v) (W.setCell ⟨gw, i, none⟩ (.int .i64 v)) :=
  ⟨h.rp.far (p := ⟨gw, i, none⟩) hne _, (h.rq.set i hi _).congr (fun k _ => upd_val _ _ _ _ _), below_set h.bel hl⟩
theorem PW.far {w0 W : World} {gp gw n : Nat} {P Q : Nat → Int} (h : PW w0 gp gw n P Q W) {g i : Nat} (hl : w0.heap.size ≤ g) (h1 : gp ≠ g) (h2 : gw ≠ g) (v : Value) : PW w0 gp gw n P Q (W.setCell ⟨g, i, none⟩ v) :=
  ⟨h.rp.far (p := ⟨g, i, none⟩) h1 _, h.rq.far (p := ⟨g, i, none⟩) h2 _, below_set h.bel hl⟩
theorem PW.start {w0 W : World} (n : Nat) (hb : Below w0.heap.size w0 W) : PW w0 W.heap.size (W.heap.size + 1) n (fun _ => 0) (fun _ => 0) ((W.alloc (Obj.cells (madeCells #[Value.int IntKind.i64 0] n) 3)).alloc (Obj.cells (madeCells #[Value.int IntKind.i64 0] n) 3)) := by
  have z1 := heap_size_alloc W (Obj.cells (madeCells #[Value.int IntKind.i64 0] n) 3)
  have a1 := RowAt.made W .i64 n 3
  have a2 := RowAt.made (W.alloc (Obj.cells (madeCells #[Value.int IntKind.i64 0] n) 3)) .i64 n 3
  rw [z1] at a2
  exact ⟨a1.below (below_alloc (Below.refl _ _) _), a2, below_step (below_step hb (below_alloc (Below.refl _ _) _)) (below_alloc (Below.refl _ _) _)⟩
theorem RowAt.rowN {W : World} {g n base : Nat} {f : Nat → Int} (h : RowAt W g n 3 (fun i => .int .i64 (f i))) (hg : base ≤ g) (hn : n ≤ 1000) (o : Option Nat) (ho : some g ≠ o) : Kd.R (Kd.int .i64) 3 W base (fun k_ => some k_ ≠ o) (.slice (some ⟨g, 0, none⟩) n n) ((List.range n).map f) := by
  refine ⟨fun k hk => ?_, (h.row (base := base) hg hn).2.imp_ (fun _ _ hp => hp)⟩
  have : g = k := by simpa [Value.ownBlock] using hk
  exact this ▸ ho
def valuation_weights.f (a0_0 : ByteArray) (a0_1 : Int) (l0_2 : List S35) (l0_3 : List S33) : Option (List Int × List Int) := if l0_2.length ≤ 1000 then some (l0_2.map (·.f0), l0_2.map (·.f1)) else none
set_option maxHeartbeats 4000000 in
set_option maxRecDepth 100000 in
theorem valuation_weights.calls (a0_0 : ByteArray) (a0_1 : Int) (A0_2 : Option Addr) (c0_2 : Nat) (l0_2 : List (S35)) (A0_3 : Option Addr) (c0_3 : Nat) (l0_3 : List (S33)) (r1 r2 : List Int) (w : World) (hr0_2 : Kd.C k35 w A0_2 l0_2.length l0_2) (hc0_2 : l0_2.length ≤ c0_2) (hr0_3 : Kd.C k33 w A0_3 l0_3.length l0_3) (hc0_3 : l0_3.length ≤ c0_3) (h : valuation_weights.f a0_0 a0_1 l0_2 l0_3 = some (r1, r2)) :
    Calls Try.prog 29 #[.agg #[.string a0_0, .int .i64 a0_1, .slice A0_2 l0_2.length c0_2, .slice A0_3 l0_3.length c0_3]] w fun e w' => ∃ v0_ v1_ : Value, e = .returned (.tuple #[v0_, v1_]) ∧ Kd.R (Kd.int .i64) 3 w' w.heap.size (fun k_ => some k_ ≠ (v1_ : Value).ownBlock) v0_ r1 ∧ Kd.R (Kd.int .i64) 3 w' w.heap.size (fun k_ => some k_ ≠ (v0_ : Value).ownBlock) v1_ r2 ∧ Below w.heap.size w w' := by
  have hu25 := Try.underlying25
  have hu35 := Try.underlying35
  unfold valuation_weights.f at h
  by_cases hn : l0_2.length ≤ 1000
  case neg => rw [if_neg hn] at h; exact absurd h (by simp)
  rw [if_pos hn] at h
  simp only [Option.some.injEq, Prod.mk.injEq] at h
  obtain ⟨rfl, rfl⟩ := h
  have hm1 := fun w => make_ints l0_2.length hn w
  have HB := Aside0.mk (Below.refl w.heap.size w)
  have HR := Aside0.mk hr0_2
  have HN := Aside0.mk hn
  clear hr0_2 hc0_2 hr0_3 hc0_3 hn
  go_enter Try.func29, Try.ntmps29
  go_wp2_with (first | ((with_reducible refine gate_dst (N := 1) rfl ?_); refine box_event ?hg (N := 1) ?hd (cs := #[.string a0_0, .int .i64 a0_1, .slice A0_2 l0_2.length c0_2, .slice A0_3 l0_3.length c0_3]) (t := 25) ?hr ?_; (case hd => rfl); (case hg => rfl); (case hr => first | (go_simp; done) | (go_simp; rfl)); intro gb hg w3 hbox hb; have z2 : w3.cell? ⟨gb, 2, none⟩ = some (.slice A0_2 l0_2.length c0_2) := (blk_cell hbox 2).trans rfl; have z2a : ∀ o : Obj, (w3.alloc o).cell? ⟨gb, 2, none⟩ = some (.slice A0_2 l0_2.length c0_2) := fun o => (blk_cell (blk_below hbox (below_alloc (Below.refl _ _) o)) 2).trans rfl; have z2b : ∀ o p : Obj, ((w3.alloc o).alloc p).cell? ⟨gb, 2, none⟩ = some (.slice A0_2 l0_2.length c0_2) := fun o p => (blk_cell (blk_below (blk_below hbox (below_alloc (Below.refl _ _) o)) (below_alloc (Below.refl _ _) p)) 2).trans rfl; have HB3 := Aside0.mk (below_step HB.out hb); clear hbox hb hg))
  have HPW0 := Aside0.mk (PW.start l0_2.length HB3.out)
  have hgp : w.heap.size ≤ w3.heap.size := HB3.out.size
  have hgw : w.heap.size ≤ w3.heap.size + 1 := by omega
  have hne : w3.heap.size ≠ w3.heap.size + 1 := by omega
  generalize ((w3.alloc (Obj.cells (madeCells #[Value.int IntKind.i64 0] l0_2.length) 3)).alloc (Obj.cells (madeCells #[Value.int IntKind.i64 0] l0_2.length) 3)) = W0 at HPW0 ⊢
  generalize w3.heap.size + 1 = gw at HPW0 hgw hne ⊢
  generalize w3.heap.size = gp at HPW0 hgp hne ⊢
  clear z2 z2a z2b HB3 HB hm1
  go_loopw [19] (fun v wr => ∃ (i : Nat) (P Q : Nat → Int), v = .int .i64 i ∧ i ≤ l0_2.length ∧ Aside0 (PW w gp gw l0_2.length P Q wr) ∧ Aside0 (∀ p, p < i → P p = (rd_T35 l0_2 p).f0 ∧ Q p = (rd_T35 l0_2 p).f1)) (fun v _ => l0_2.length - (intOf v).toNat)
  case atStart => exact ⟨0, _, _, rfl, Nat.zero_le _, HPW0, ⟨fun p hp => absurd hp (by omega)⟩⟩
  case round =>
    clear HPW0
    obtain ⟨i, P, Q, rfl, hi, HP, HV⟩ := hrel
    by_cases c : i < l0_2.length
    · have d : decide ((i : Int) < (l0_2.length : Int)) = true := decide_eq_true (by omega)
      have p0 : (0 : Int) ≤ (i : Int) := by omega
      have q0 : (i : Int) < (l0_2.length : Int) := by omega
      obtain ⟨ad, e, x0, x1⟩ := at_T35 HR.out (i : Int) p0 q0
      cases e
      rw [show ((i : Int)).toNat = i from Int.toNat_natCast i] at x0 x1
      replace x0 := (HP.out.bel.cell (World.block_lt_of_cell? w _ x0)).trans x0
      replace x1 := (HP.out.bel.cell (World.block_lt_of_cell? w _ x1)).trans x1
      go_wp2_with (first | ((with_reducible refine gate_dst (N := 7) rfl ?_); refine box_event ?hg (N := 7) ?hd (cs := #[.int .i64 0, .int .i64 0]) (t := 35) ?hr ?_; (case hd => rfl); (case hg => rfl); (case hr => first | (go_simp; done) | (go_simp; rfl)); intro gb hg w4 hbox hb; have z0 : w4.cell? ⟨gb, 0, none⟩ = some (.int .i64 0) := (blk_cell hbox 0).trans rfl; have z1 : w4.cell? ⟨gb, 1, none⟩ = some (.int .i64 0) := (blk_cell hbox 1).trans rfl; have y0 := blk_frozen hbox 0; have y1 := blk_frozen hbox 1; have BK := Aside0.mk hbox; have HP4 := Aside0.mk (HP.out.below hb); have GB : Aside0 (w.heap.size ≤ gb ∧ gp ≠ gb ∧ gw ≠ gb) := ⟨by have l1 := HP.out.rp.lt; have l2 := HP.out.rq.lt; omega⟩; clear hbox hb hg))
      obtain ⟨G1, G2, G3⟩ := GB.out
      have HP5 := Aside0.mk ((HP4.out.far (i := 0) G1 G2 G3 (.int .i64 (rd_T35 l0_2 i).f0)).far (i := 1) G1 G2 G3 (.int .i64 (rd_T35 l0_2 i).f1))
      have BK5 := blk_put (cs := #[.int .i64 (rd_T35 l0_2 i).f0, .int .i64 0]) (blk_put (cs := #[.int .i64 0, .int .i64 0]) BK.out 0 (.int .i64 (rd_T35 l0_2 i).f0) rfl) 1 (.int .i64 (rd_T35 l0_2 i).f1) rfl
      generalize ((w4.setCell ⟨gb, 0, none⟩ (.int .i64 (rd_T35 l0_2 i).f0)).setCell ⟨gb, 1, none⟩ (.int .i64 (rd_T35 l0_2 i).f1)) = W5 at HP5 BK5 ⊢
      clear z0 z1 y0 y1 BK HP4 x0 x1 GB
      have z0 : W5.cell? ⟨gb, 0, none⟩ = some (.int .i64 (rd_T35 l0_2 i).f0) := (blk_cell BK5 0).trans rfl
      have z1 : W5.cell? ⟨gb, 1, none⟩ = some (.int .i64 (rd_T35 l0_2 i).f1) := (blk_cell BK5 1).trans rfl
      have cp := HP5.out.rp.cell i c
      have cq := HP5.out.rq.cell i c
      have fp := HP5.out.rp.free i
      have fq := HP5.out.rq.free i
      have HP6 := Aside0.mk (HP5.out.setP hgp hne i c (rd_T35 l0_2 i).f0)
      have BK6 := blk_far BK5 (p := ⟨gp, i, none⟩) G2.symm (.int .i64 (rd_T35 l0_2 i).f0)
      have z06 := (blk_cell BK6 0).trans (show _ = some (Value.int .i64 (rd_T35 l0_2 i).f0) from rfl)
      have z16 := (blk_cell BK6 1).trans (show _ = some (Value.int .i64 (rd_T35 l0_2 i).f1) from rfl)
      have cq6 := HP6.out.rq.cell i c
      have fq6 := HP6.out.rq.free i
      have HP7 := Aside0.mk (HP6.out.setQ hgw hne i c (rd_T35 l0_2 i).f1)
      clear BK5 BK6 HP
      go_region
      all_goals (try go_wp2)
      have hn1 := HN.out
      have wi : wrap64 ((i : Int) + 1) = ((i + 1 : Nat) : Int) := by unfold wrap64; omega
      rw [wi]
      refine ⟨⟨i + 1, _, _, rfl, c, ⟨HP7.out.drewN 1⟩, ⟨fun p hp => ?_⟩⟩, by simp only [intOf]; omega⟩
      by_cases e : p = i
      · subst e; exact ⟨upd_self _ _ _, upd_self _ _ _⟩
      · have := HV.out p (by omega)
        exact ⟨this.1 ▸ if_neg e, this.2 ▸ if_neg e⟩
    · have d : decide ((i : Int) < (l0_2.length : Int)) = false := decide_eq_false (by omega)
      obtain rfl : i = l0_2.length := by omega
      go_wp2
      go_ret2
      refine ⟨_, _, rfl, ?_, ?_, HP.out.bel⟩
      · have := HP.out.rp.rowN (base := w.heap.size) hgp HN.out (some gw) (fun e => hne (Option.some.inj e))
        rw [show (List.range l0_2.length).map P = l0_2.map (·.f0) from range_map35 _ _ _ (fun p hp => (HV.out p hp).1)] at this
        exact this
      · have := HP.out.rq.rowN (base := w.heap.size) hgw HN.out (some gp) (fun e => hne (Option.some.inj e).symm)
        rw [show (List.range l0_2.length).map Q = l0_2.map (·.f1) from range_map35 _ _ _ (fun p hp => (HV.out p hp).2)] at this
        exact this

end Go.Proofs.Yteoieencagcgdaa.PX
end
section
namespace Go.Proofs.Yteoieencagcgdaa.PX
open Go.RowKit Go.Proofs.YteoieencagcgdaaW.PrintWords Go.Proofs.YteoieencagcgdaaW.PrintLast Go.Proofs.YteoieencagcgdaaW.PrintMore
attribute [local go_sem] max2_int min2_int max_two min_two max_three min_three max_four min_four
set_option linter.unusedVariables false
set_option linter.unusedSimpArgs false

theorem copy_all {ys xs : List Int} (h : ys.length = xs.length) : ys.take (min ys.length xs.length) ++ xs.drop (min ys.length xs.length) = ys := by
  rw [h, Nat.min_self, List.drop_length, List.append_nil, ← h, List.take_length]
theorem R_old_lt {w w1 : World} {base : Nat} {ok : Nat → Prop} {v : Value} {xs : List Int} (h : Kd.R (Kd.int .i64) 3 w base ok v xs) (hg : w.grownBy w1 none) : Kd.R (Kd.int .i64) 3 w1 base (fun k => k < w.heap.size) v xs :=
  Kd.R_grown (Kd.R_mono (Kd.R_bound h) (fun k hk => hk.2.2.1)) hg (fun k _ e => by cases e)
theorem new_ne {w : World} {v : Value} (hn : ∃ b, v.ownBlock = some b ∧ w.heap.size ≤ b) : ∀ k, k < w.heap.size → some k ≠ v.ownBlock := by
  obtain ⟨b, hb, hl⟩ := hn
  intro k hk e
  rw [hb] at e
  have := Option.some.inj e
  omega
def valuation_divide.f (k : Nat) (a0_0 : ByteArray) (a0_1 : Int) (l0_2 : List S35) (l0_3 : List S33) (a1_0 : Int) (a1_1 : Int) (a1_2 : ByteArray) (a1_3 : Int) (a1_4 : Int) (a2 : Int) : Option (List Int) :=
  (valuation_weights.f a0_0 a0_1 l0_2 l0_3).bind fun t => if a1_3 = 3 then (if 0 ≤ a1_4 ∧ a1_4 < (l0_2.length : Int) then some ((List.replicate l0_2.length 0).set a1_4.toNat a2) else none) else (apportion_Share.f k a2 (if a1_3 = 2 then t.2 else t.1)).bind fun s => some s.1
theorem weights_len {a0_0 : ByteArray} {a0_1 : Int} {l0_2 : List S35} {l0_3 : List S33} {p q : List Int} (h : valuation_weights.f a0_0 a0_1 l0_2 l0_3 = some (p, q)) : p.length = l0_2.length ∧ q.length = l0_2.length ∧ l0_2.length ≤ 1000 := by
  unfold valuation_weights.f at h
  by_cases hn : l0_2.length ≤ 1000
  · rw [if_pos hn] at h
    simp only [Option.some.injEq, Prod.mk.injEq] at h
    obtain ⟨rfl, rfl⟩ := h
    exact ⟨by simp, by simp, hn⟩
  · rw [if_neg hn] at h; exact absurd h (by simp)
set_option maxHeartbeats 4000000 in
set_option maxRecDepth 100000 in
theorem valuation_divide.calls (k : Nat) (a0_0 : ByteArray) (a0_1 : Int) (A0_2 : Option Addr) (c0_2 : Nat) (l0_2 : List (S35)) (A0_3 : Option Addr) (c0_3 : Nat) (l0_3 : List (S33)) (a1_0 : Int) (a1_1 : Int) (a1_2 : ByteArray) (a1_3 : Int) (a1_4 : Int) (a2 : Int) (r : List Int) (w : World) (hr0_2 : Kd.C k35 w A0_2 l0_2.length l0_2) (hc0_2 : l0_2.length ≤ c0_2) (hr0_3 : Kd.C k33 w A0_3 l0_3.length l0_3) (hc0_3 : l0_3.length ≤ c0_3) (h : valuation_divide.f k a0_0 a0_1 l0_2 l0_3 a1_0 a1_1 a1_2 a1_3 a1_4 a2 = some r) :
    Calls Try.prog 33 #[.agg #[.string a0_0, .int .i64 a0_1, .slice A0_2 l0_2.length c0_2, .slice A0_3 l0_3.length c0_3], .agg #[.int .i64 a1_0, .int .i64 a1_1, .string a1_2, .int .i64 a1_3, .int .i64 a1_4], .int .i64 a2] w fun e w' => ∃ v0_ : Value, e = .returned v0_ ∧ Kd.R (Kd.int .i64) 3 w' w.heap.size (fun _ => True) v0_ r ∧ Below w.heap.size w w' := by
  have hu25 := Try.underlying25
  have hu33 := Try.underlying33
  obtain ⟨i3, hi3, _, hs3, _⟩ := info_parts info3
  have hsz : (Try.prog.info? 3).map (·.size) = some 1 := by rw [hi3]; exact congrArg some hs3
  clear hi3 hs3
  unfold valuation_divide.f at h
  replace h := Option.bind_eq_some_iff.mp h
  obtain ⟨⟨p, q⟩, hw, h⟩ := h
  dsimp only at h
  have HW := Aside0.mk hw
  have HL := Aside0.mk (weights_len hw)
  clear hw
  have HR2 := Aside0.mk hr0_2
  have HR3 := Aside0.mk hr0_3
  have HC2 := Aside0.mk hc0_2
  have HC3 := Aside0.mk hc0_3
  have HZ := Aside0.mk hsz
  have HB := Aside0.mk (Below.refl w.heap.size w)
  clear hr0_2 hc0_2 hr0_3 hc0_3 hsz
  have m0 : decide ((l0_2.length : Int) < 0) = false := decide_eq_false (by omega)
  by_cases c3 : a1_3 = 3
  · rw [if_pos c3] at h
    subst c3
    by_cases ci : 0 ≤ a1_4 ∧ a1_4 < (l0_2.length : Int)
    case neg => rw [if_neg ci] at h; exact absurd h (by simp)
    rw [if_pos ci] at h
    obtain rfl := Option.some.inj h
    clear h
    obtain ⟨p0, q0⟩ := ci
    have hn0 : 0 < l0_2.length := by omega
    have q0' : a1_4 < ((List.replicate l0_2.length (0 : Int)).length : Int) := by rw [List.length_replicate]; exact q0
    go_enter Try.func33, Try.ntmps33
    go_wp2_with (first
      | ((with_reducible refine gate_dst (N := 3) rfl ?_); refine box_event ?hg (N := 3) ?hd (cs := #[.string a0_0, .int .i64 a0_1, .slice A0_2 l0_2.length c0_2, .slice A0_3 l0_3.length c0_3]) (t := 25) ?hr ?_; (case hd => rfl); (case hg => rfl); (case hr => first | (go_simp; done) | (go_simp; rfl)); intro gb hg w3 hbox hb; have BK3 := Aside0.mk hbox; have HB3 := Aside0.mk (below_step HB.out hb); clear hbox hb hg)
      | ((with_reducible refine gate_dst (N := 4) rfl ?_); refine box_event ?hg (N := 4) ?hd (cs := #[.int .i64 a1_0, .int .i64 a1_1, .string a1_2, .int .i64 3, .int .i64 a1_4]) (t := 33) ?hr ?_; (case hd => rfl); (case hg => rfl); (case hr => first | (go_simp; done) | (go_simp; rfl)); intro gc hg w4 hbox hb; have BK4 := Aside0.mk hbox; have BG4 := Aside0.mk (blk_below BK3.out hb); have HB4 := Aside0.mk (below_step HB3.out hb); have z0 : w4.cell? ⟨gb, 0, none⟩ = some (.string a0_0) := (blk_cell BG4.out 0).trans rfl; have z1 : w4.cell? ⟨gb, 1, none⟩ = some (.int .i64 a0_1) := (blk_cell BG4.out 1).trans rfl; have z2 : w4.cell? ⟨gb, 2, none⟩ = some (.slice A0_2 l0_2.length c0_2) := (blk_cell BG4.out 2).trans rfl; have z3 : w4.cell? ⟨gb, 3, none⟩ = some (.slice A0_3 l0_3.length c0_3) := (blk_cell BG4.out 3).trans rfl; clear hbox hb hg)
      | (go_at_call 29; (with_reducible refine (valuation_weights.calls _ _ _ _ _ _ _ _ p q _ (Kd.C_below HR2.out HB4.out) HC2.out (Kd.C_below HR3.out HB4.out) HC3.out HW.out).mono ?_); rintro e w5 ⟨vp, vw, rfl, hp, hq, hb⟩; have BK5 := Aside0.mk (blk_below BK4.out hb); have BG5 := Aside0.mk (blk_below BG4.out hb); have HB5 := Aside0.mk (below_step HB4.out hb); have t2 : w5.cell? ⟨gb, 2, none⟩ = some (.slice A0_2 l0_2.length c0_2) := (blk_cell BG5.out 2).trans rfl; have y3 : w5.cell? ⟨gc, 3, none⟩ = some (.int .i64 3) := (blk_cell BK5.out 3).trans rfl; clear hp hq hb)
      | ((with_reducible refine gate_dst (N := 24) rfl ?_); refine Kd.R_make (Kd.int .i64) w.heap.size 3 rfl (N := 24) rfl 26 _ _ rfl (l0_2.length : Int) rfl rfl Try.underlying26 (.int .i64 0) 8 info3 rfl (by decide) (by omega) 0 (ok := fun _ => True) (okp := fun _ => True) rfl (fun _ hk => hk) trivial (by omega) (by have := HL.out.2.2; omega) HB5.out HB5.out.size ?_; intro v w6 ho hb hg hnew; have BK6 := Aside0.mk (blk_grown BK5.out hg (by simp)); rw [Int.toNat_natCast] at ho; obtain ⟨g, cap, rfl, hgb, _⟩ := Kd.R_form ho (by rw [List.length_replicate]; exact hn0); have HO := Aside0.mk ho; have HB6 := Aside0.mk hb; have HGB := Aside0.mk hgb; have y4 : w6.cell? ⟨gc, 4, none⟩ = some (.int .i64 a1_4) := (blk_cell BK6.out 4).trans rfl; rw [List.length_replicate] at *; obtain ⟨u1, u2⟩ := Kd.R_celln 0 HO.out a1_4 p0 q0; clear ho hb hg hnew hgb))
    go_ret
    refine ⟨_, rfl, ?_, ?_⟩
    · exact Kd.R_putn HO.out a1_4 a2
    · exact below_set HB6.out HGB.out
  · rw [if_neg c3] at h
    have d3 : decide (a1_3 = 3) = false := decide_eq_false c3
    have d3b : (a1_3 == 3) = false := by simpa using c3
    replace h := Option.bind_eq_some_iff.mp h
    obtain ⟨⟨s, e0⟩, hs, h⟩ := h
    obtain rfl : s = r := Option.some.inj h
    clear h
    by_cases c2 : a1_3 = 2
    · rw [if_pos c2] at hs
      (try dsimp only at hs)
      subst c2
      have HS := Aside0.mk hs
      clear hs c3 d3 d3b
      go_enter Try.func33, Try.ntmps33
      go_wp2_with (first
        | ((with_reducible refine gate_dst (N := 3) rfl ?_); refine box_event ?hg (N := 3) ?hd (cs := #[.string a0_0, .int .i64 a0_1, .slice A0_2 l0_2.length c0_2, .slice A0_3 l0_3.length c0_3]) (t := 25) ?hr ?_; (case hd => rfl); (case hg => rfl); (case hr => first | (go_simp; done) | (go_simp; rfl)); intro gb hg w3 hbox hb; have BK3 := Aside0.mk hbox; have HB3 := Aside0.mk (below_step HB.out hb); clear hbox hb hg)
        | ((with_reducible refine gate_dst (N := 4) rfl ?_); refine box_event ?hg (N := 4) ?hd (cs := #[.int .i64 a1_0, .int .i64 a1_1, .string a1_2, .int .i64 2, .int .i64 a1_4]) (t := 33) ?hr ?_; (case hd => rfl); (case hg => rfl); (case hr => first | (go_simp; done) | (go_simp; rfl)); intro gc hg w4 hbox hb; have BK4 := Aside0.mk hbox; have BG4 := Aside0.mk (blk_below BK3.out hb); have HB4 := Aside0.mk (below_step HB3.out hb); have z0 : w4.cell? ⟨gb, 0, none⟩ = some (.string a0_0) := (blk_cell BG4.out 0).trans rfl; have z1 : w4.cell? ⟨gb, 1, none⟩ = some (.int .i64 a0_1) := (blk_cell BG4.out 1).trans rfl; have z2 : w4.cell? ⟨gb, 2, none⟩ = some (.slice A0_2 l0_2.length c0_2) := (blk_cell BG4.out 2).trans rfl; have z3 : w4.cell? ⟨gb, 3, none⟩ = some (.slice A0_3 l0_3.length c0_3) := (blk_cell BG4.out 3).trans rfl; clear hbox hb hg)
        | (go_at_call 29; (with_reducible refine (valuation_weights.calls _ _ _ _ _ _ _ _ p q _ (Kd.C_below HR2.out HB4.out) HC2.out (Kd.C_below HR3.out HB4.out) HC3.out HW.out).mono ?_); rintro e w5 ⟨vp, vw, rfl, hp, hq, hb⟩; obtain ⟨Ap, cp, rfl⟩ := Kd.R_slice hp; obtain ⟨Aq, cq, rfl⟩ := Kd.R_slice hq; have HP5 := Aside0.mk hp; have HQ5 := Aside0.mk hq; have BK5 := Aside0.mk (blk_below BK4.out hb); have BG5 := Aside0.mk (blk_below BG4.out hb); have HB5 := Aside0.mk (below_step HB4.out hb); have t2 : w5.cell? ⟨gb, 2, none⟩ = some (.slice A0_2 l0_2.length c0_2) := (blk_cell BG5.out 2).trans rfl; have y3 : w5.cell? ⟨gc, 3, none⟩ = some (.int .i64 2) := (blk_cell BK5.out 3).trans rfl; clear hp hq hb)
        | ((with_reducible refine gate_dst (N := 34) rfl ?_); refine Kd.R_make (Kd.int .i64) w.heap.size 3 rfl (N := 34) rfl 26 _ _ rfl (l0_2.length : Int) rfl rfl Try.underlying26 (.int .i64 0) 8 info3 rfl (by decide) (by omega) 0 (ok := fun _ => True) (okp := fun _ => True) rfl (fun _ hk => hk) trivial (by omega) (by have := HL.out.2.2; omega) HB5.out HB5.out.size ?_; intro v w6 ho hb hg hnew; have BK6 := Aside0.mk (blk_grown BK5.out hg (by simp)); rw [Int.toNat_natCast] at ho; have HP6 := Aside0.mk (R_old_lt HP5.out hg); have HQ6 := Aside0.mk (R_old_lt HQ5.out hg); have NE := Aside0.mk (new_ne hnew); have GC := Aside0.mk (blk_lt BK5.out); have HO6 := Aside0.mk ho; have HB6 := Aside0.mk hb; clear ho hb hg hnew)
        | ((with_reducible refine gate_builtin (b := .copy) (xs := #[.tmp 35, .tmp 36]) rfl ?_); refine Kd.R_copy (0 : Int) (w0 := w) w.heap.size rfl (.tmp 35) (.tmp 36) 26 26 3 rfl Try.underlying26 HZ.out v (List.replicate l0_2.length 0) p Ap p.length cp (fun _ => True) (by first | rfl | (go_simp; done) | (go_simp; rfl)) (by first | rfl | (go_simp; done) | (go_simp; rfl)) HO6.out (Kd.R_reads' HP6.out).2.2 HB6.out HB6.out.size ?_; intro w7 ho hb hg; have BK7 := Aside0.mk (blk_grown BK6.out hg (NE.out _ GC.out)); rw [copy_all (by rw [List.length_replicate]; exact HL.out.1)] at ho; have HQ7 := Aside0.mk (Kd.R_grown HQ6.out hg NE.out); have HB7 := Aside0.mk hb; have y7 : w7.cell? ⟨gc, 3, none⟩ = some (.int .i64 2) := (blk_cell BK7.out 3).trans rfl; have HO7 := Aside0.mk ho; clear ho hb hg)
        | ((with_reducible refine gate_builtin (b := .copy) (xs := #[.tmp 41, .tmp 42]) rfl ?_); refine Kd.R_copy (0 : Int) (w0 := w) w.heap.size rfl (.tmp 41) (.tmp 42) 26 26 3 rfl Try.underlying26 HZ.out v (p) q Aq q.length cq (fun _ => True) (by first | rfl | (go_simp; done) | (go_simp; rfl)) (by first | rfl | (go_simp; done) | (go_simp; rfl)) HO7.out (Kd.R_reads' HQ7.out).2.2 HB7.out HB7.out.size ?_; intro w8 ho hb hg; have BK8 := Aside0.mk (blk_grown BK7.out hg (NE.out _ GC.out)); rw [copy_all (by rw [HL.out.1]; exact HL.out.2.1)] at ho; have HQ8 := Aside0.mk (Kd.R_grown HQ7.out hg NE.out); have HB8 := Aside0.mk hb; have y8 : w8.cell? ⟨gc, 3, none⟩ = some (.int .i64 2) := (blk_cell BK8.out 3).trans rfl; obtain ⟨Ao, co, rfl⟩ := Kd.R_slice ho; have HO8 := Aside0.mk ho; clear ho hb hg)
        | (go_at_call 31; (refine (apportion_Share.calls k a2 _ _ q s e0 _ (Kd.R_reads' HO8.out).2.2 (Kd.R_reads' HO8.out).2.1 HS.out).mono ?_); rintro e w9 ⟨v0, rfl, hr, hb⟩; have HRR := Aside0.mk (Kd.R_lower hr HB8.out.size); have HBB := Aside0.mk (below_step HB8.out hb); clear hr hb))
      go_ret
      exact ⟨_, rfl, HRR.out, HBB.out⟩
    · rw [if_neg c2] at hs
      (try dsimp only at hs)
      have d2 : decide (a1_3 = 2) = false := decide_eq_false c2
      have d2b : (a1_3 == 2) = false := by simpa using c2
      have HS := Aside0.mk hs
      clear hs c3 c2
      go_enter Try.func33, Try.ntmps33
      go_wp2_with (first
        | ((with_reducible refine gate_dst (N := 3) rfl ?_); refine box_event ?hg (N := 3) ?hd (cs := #[.string a0_0, .int .i64 a0_1, .slice A0_2 l0_2.length c0_2, .slice A0_3 l0_3.length c0_3]) (t := 25) ?hr ?_; (case hd => rfl); (case hg => rfl); (case hr => first | (go_simp; done) | (go_simp; rfl)); intro gb hg w3 hbox hb; have BK3 := Aside0.mk hbox; have HB3 := Aside0.mk (below_step HB.out hb); clear hbox hb hg)
        | ((with_reducible refine gate_dst (N := 4) rfl ?_); refine box_event ?hg (N := 4) ?hd (cs := #[.int .i64 a1_0, .int .i64 a1_1, .string a1_2, .int .i64 a1_3, .int .i64 a1_4]) (t := 33) ?hr ?_; (case hd => rfl); (case hg => rfl); (case hr => first | (go_simp; done) | (go_simp; rfl)); intro gc hg w4 hbox hb; have BK4 := Aside0.mk hbox; have BG4 := Aside0.mk (blk_below BK3.out hb); have HB4 := Aside0.mk (below_step HB3.out hb); have z0 : w4.cell? ⟨gb, 0, none⟩ = some (.string a0_0) := (blk_cell BG4.out 0).trans rfl; have z1 : w4.cell? ⟨gb, 1, none⟩ = some (.int .i64 a0_1) := (blk_cell BG4.out 1).trans rfl; have z2 : w4.cell? ⟨gb, 2, none⟩ = some (.slice A0_2 l0_2.length c0_2) := (blk_cell BG4.out 2).trans rfl; have z3 : w4.cell? ⟨gb, 3, none⟩ = some (.slice A0_3 l0_3.length c0_3) := (blk_cell BG4.out 3).trans rfl; clear hbox hb hg)
        | (go_at_call 29; (with_reducible refine (valuation_weights.calls _ _ _ _ _ _ _ _ p q _ (Kd.C_below HR2.out HB4.out) HC2.out (Kd.C_below HR3.out HB4.out) HC3.out HW.out).mono ?_); rintro e w5 ⟨vp, vw, rfl, hp, hq, hb⟩; obtain ⟨Ap, cp, rfl⟩ := Kd.R_slice hp; obtain ⟨Aq, cq, rfl⟩ := Kd.R_slice hq; have HP5 := Aside0.mk hp; have HQ5 := Aside0.mk hq; have BK5 := Aside0.mk (blk_below BK4.out hb); have BG5 := Aside0.mk (blk_below BG4.out hb); have HB5 := Aside0.mk (below_step HB4.out hb); have t2 : w5.cell? ⟨gb, 2, none⟩ = some (.slice A0_2 l0_2.length c0_2) := (blk_cell BG5.out 2).trans rfl; have y3 : w5.cell? ⟨gc, 3, none⟩ = some (.int .i64 a1_3) := (blk_cell BK5.out 3).trans rfl; clear hp hq hb)
        | ((with_reducible refine gate_dst (N := 34) rfl ?_); refine Kd.R_make (Kd.int .i64) w.heap.size 3 rfl (N := 34) rfl 26 _ _ rfl (l0_2.length : Int) rfl rfl Try.underlying26 (.int .i64 0) 8 info3 rfl (by decide) (by omega) 0 (ok := fun _ => True) (okp := fun _ => True) rfl (fun _ hk => hk) trivial (by omega) (by have := HL.out.2.2; omega) HB5.out HB5.out.size ?_; intro v w6 ho hb hg hnew; have BK6 := Aside0.mk (blk_grown BK5.out hg (by simp)); rw [Int.toNat_natCast] at ho; have HP6 := Aside0.mk (R_old_lt HP5.out hg); have HQ6 := Aside0.mk (R_old_lt HQ5.out hg); have NE := Aside0.mk (new_ne hnew); have GC := Aside0.mk (blk_lt BK5.out); have HO6 := Aside0.mk ho; have HB6 := Aside0.mk hb; clear ho hb hg hnew)
        | ((with_reducible refine gate_builtin (b := .copy) (xs := #[.tmp 35, .tmp 36]) rfl ?_); refine Kd.R_copy (0 : Int) (w0 := w) w.heap.size rfl (.tmp 35) (.tmp 36) 26 26 3 rfl Try.underlying26 HZ.out v (List.replicate l0_2.length 0) p Ap p.length cp (fun _ => True) (by first | rfl | (go_simp; done) | (go_simp; rfl)) (by first | rfl | (go_simp; done) | (go_simp; rfl)) HO6.out (Kd.R_reads' HP6.out).2.2 HB6.out HB6.out.size ?_; intro w7 ho hb hg; have BK7 := Aside0.mk (blk_grown BK6.out hg (NE.out _ GC.out)); rw [copy_all (by rw [List.length_replicate]; exact HL.out.1)] at ho; have HQ7 := Aside0.mk (Kd.R_grown HQ6.out hg NE.out); have HB7 := Aside0.mk hb; have y7 : w7.cell? ⟨gc, 3, none⟩ = some (.int .i64 a1_3) := (blk_cell BK7.out 3).trans rfl; obtain ⟨Ao, co, rfl⟩ := Kd.R_slice ho; have HO7 := Aside0.mk ho; clear ho hb hg)
        | (go_at_call 31; (refine (apportion_Share.calls k a2 _ _ p s e0 _ (Kd.R_reads' HO7.out).2.2 (Kd.R_reads' HO7.out).2.1 HS.out).mono ?_); rintro e w9 ⟨v0, rfl, hr, hb⟩; have HRR := Aside0.mk (Kd.R_lower hr HB7.out.size); have HBB := Aside0.mk (below_step HB7.out hb); clear hr hb))
      go_ret
      exact ⟨_, rfl, HRR.out, HBB.out⟩

end Go.Proofs.Yteoieencagcgdaa.PX
end
section
namespace Go.Proofs.Yteoieencagcgdaa.PX
open Go.RowKit Go.Proofs.YteoieencagcgdaaW.PrintWords Go.Proofs.YteoieencagcgdaaW.PrintLast Go.Proofs.YteoieencagcgdaaW.PrintMore
attribute [local go_sem] max2_int min2_int max_two min_two max_three min_three max_four min_four
set_option linter.unusedVariables false
set_option linter.unusedSimpArgs false

def valuation_sign.f (a0 : Int) : Option (Int) := if a0 ≤ 5 then (some 1) else (if a0 ≤ 8 then (some (-1)) else (some 0))
set_option maxHeartbeats 8000000 in
set_option maxRecDepth 100000 in
theorem valuation_sign.calls (a0 : Int) (r : Int) (w : World) (h : valuation_sign.f a0 = some r) :
   Calls Try.prog 32 #[.int .i64 a0] w fun e w' => e = .returned (.int .i64 r) ∧ Drawn0 w w' := by
  have H : (if a0 ≤ 5 then (some 1) else (if a0 ≤ 8 then (some (-1)) else (some 0))) = some r := h
  clear h
  by_cases c2 : a0 ≤ 5
  ·rw [if_pos c2] at H
   have c2b0 : decide (a0 ≤ 5) = true := decide_eq_true c2
   clear c2
   obtain rfl := Option.some.inj H
   simp only [Option.some.injEq, Prod.mk.injEq] at H
   obtain ⟨rfl⟩ := H
   go_enter Try.func32, Try.ntmps32
   go_wp2
   go_ret
   exact ⟨by first | rfl | (simp; done) | (simp [*]; done), by repeat (first | exact Drawn0.refl _ | apply Drawn0.step)⟩
  ·rw [if_neg c2] at H
   have c2b0 : decide (a0 ≤ 5) = false := decide_eq_false c2
   clear c2
   by_cases c3 : a0 ≤ 8
   ·rw [if_pos c3] at H
    have c3b0 : decide (a0 ≤ 8) = true := decide_eq_true c3
    clear c3
    obtain rfl := Option.some.inj H
    simp only [Option.some.injEq, Prod.mk.injEq] at H
    obtain ⟨rfl⟩ := H
    go_enter Try.func32, Try.ntmps32
    go_wp2
    go_ret
    exact ⟨by first | rfl | (simp; done) | (simp [*]; done), by repeat (first | exact Drawn0.refl _ | apply Drawn0.step)⟩
   ·rw [if_neg c3] at H
    have c3b0 : decide (a0 ≤ 8) = false := decide_eq_false c3
    clear c3
    obtain rfl := Option.some.inj H
    simp only [Option.some.injEq, Prod.mk.injEq] at H
    obtain ⟨rfl⟩ := H
    go_enter Try.func32, Try.ntmps32
    go_wp2
    go_ret
    exact ⟨by first | rfl | (simp; done) | (simp [*]; done), by repeat (first | exact Drawn0.refl _ | apply Drawn0.step)⟩

end Go.Proofs.Yteoieencagcgdaa.PX
end
