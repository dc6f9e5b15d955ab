/- Texts of this session joined by a small program: plain Lean functions with the answers of Go functions of this seat, proofs that the machine's calls come to them, and plain laws over them that the claim ShareOrder uses. -/
import Derived.Test.YtidonenkdibaoaaProg
import Derived.RegionTactic
import Derived.Maps.Own
import Derived.Maps.OwnOps
import Derived.Maps.OwnSet
import Derived.Laws.Externs
import Derived.WalkLawsBesides
import Derived.Deep.RegionLaw
import Derived.IntWalk
import Derived.Below
import Derived.Deep.Draws
import Derived.Deep.AppendLies
import Derived.Maps.AppendAt
import Derived.OwnWalk
import Derived.Laws.BytesArg
import Derived.Laws.MakeOwn
import Derived.Laws.OwnMore
import Derived.Deep.OwnRows
import Derived.Tactics
import Derived.Lib.ConvBytes
import Derived.Laws.Slices
import Derived.WalkKit
import Derived.KernelRfl
import Derived.RowKit3
import Derived.Deep.LoopGhost
import Derived.Deep.QuietTactic
import Derived.BigQuiet
import Derived.WideLaws
import Derived.Deep.DeepCutAuto
import Derived.Deep.CutBlock
import Derived.Deep.RegionHeld3
import Derived.Laws.Rows
import Derived.Lib.AppendStr
import Derived.ArgAppend
import Derived.Laws.IdiomCopy
import Derived.OrdersHeld
import Derived.Laws.BitsLemmas
import Derived.RowKit
import Derived.Test.YtidonenkdibaoaaWWords
import Derived.Test.YtidonenkdibaoaaWLast
import Derived.Test.YtidonenkdibaoaaWTab
import Derived.Test.YtidonenkdibaoaaWFour
import Derived.Test.YtidonenkdibaoaaWQPut
import Derived.Test.YtidonenkdibaoaaWApart
import Derived.Test.YtidonenkdibaoaaWArr
import Derived.Test.YtidonenkdibaoaaWZeros
import Derived.Test.YtidonenkdibaoaaWFoot
import Derived.Test.YtidonenkdibaoaaWKept
import Derived.Test.YtidonenkdibaoaaWShare
import Derived.Test.YtidonenkdibaoaaWN
import Derived.Test.YtidonenkdibaoaaWFootNe
import Derived.Test.YtidonenkdibaoaaWAt
import Derived.Test.YtidonenkdibaoaaWEqStruct
import Derived.Test.YtidonenkdibaoaaWRepsOne
import Derived.Test.YtidonenkdibaoaaWInv
import Derived.Test.YtidonenkdibaoaaWInvWords
import Derived.Test.YtidonenkdibaoaaWGuard
import Derived.Test.YtidonenkdibaoaaWNEv
import Derived.Test.YtidonenkdibaoaaWMore
import Derived.Laws.Bits64
import Derived.Test.YtidonenkdibaoaaMShareOrder3
section
namespace Go.Proofs.Ytidonenkdibaoaa.PX
open Go.RowKit Go.Proofs.YtidonenkdibaoaaW.PrintWords Go.Proofs.YtidonenkdibaoaaW.PrintLast Go.Proofs.YtidonenkdibaoaaW.PrintMore
set_option linter.unusedVariables false
set_option linter.unusedSimpArgs false

theorem Ev.ite {α : Type} {c : Prop} [Decidable c] {f g : Nat → Option α} {r : α} (h1 : c → Ev f r) (h2 : ¬ c → Ev g r) : Ev (fun k => if c then f k else g k) r := by
  by_cases h : c
  · exact Ev.congr (fun k => if_pos h) (h1 h)
  · exact Ev.congr (fun k => if_neg h) (h2 h)
theorem Ev.pos {α : Type} {c : Prop} [Decidable c] {f g : Nat → Option α} {r : α} (h : c) (h1 : Ev f r) : Ev (fun k => if c then f k else g k) r := Ev.congr (fun k => if_pos h) h1
theorem Ev.neg {α : Type} {c : Prop} [Decidable c] {f g : Nat → Option α} {r : α} (h : ¬ c) (h1 : Ev g r) : Ev (fun k => if c then f k else g k) r := Ev.congr (fun k => if_neg h) h1
theorem rd_nat (l : List Int) (i : Nat) : rd l (i : Int) = l.getD i 0 := rfl
def sumI (f : Nat → Int) : Nat → Int
  | 0 => 0
  | n + 1 => sumI f n + f n
theorem sumI_congr {f g : Nat → Int} {n : Nat} (h : ∀ i, i < n → f i = g i) : sumI f n = sumI g n := by
  induction n with
  | zero => rfl
  | succ n ih => simp only [sumI]; rw [ih (fun i hi => h i (by omega)), h n (by omega)]
theorem sumI_le {f : Nat → Int} {n : Nat} {B : Int} (h : ∀ i, i < n → 0 ≤ f i ∧ f i ≤ B) : 0 ≤ sumI f n ∧ sumI f n ≤ n * B := by
  induction n with
  | zero => simp [sumI]
  | succ n ih =>
    have := ih (fun i hi => h i (by omega))
    have := h n (by omega)
    simp only [sumI]
    rw [show ((n + 1 : Nat) : Int) * B = n * B + B by rw [Int.natCast_add, Int.add_mul]; simp]
    omega
theorem sumI_part {f : Nat → Int} {n : Nat} (h : ∀ i, i < n → 0 ≤ f i) (i : Nat) (hi : i < n) : f i ≤ sumI f n := by
  induction n with
  | zero => omega
  | succ n ih =>
    simp only [sumI]
    have h0 : 0 ≤ sumI f n := (by
      clear ih hi
      have : ∀ m, m ≤ n → 0 ≤ sumI f m := by
        intro m
        induction m with
        | zero => intro _; simp [sumI]
        | succ m im => intro hm; have := im (by omega); have := h m (by omega); simp only [sumI]; omega
      exact this n (Nat.le_refl _))
    by_cases c : i = n
    · subst c; omega
    · have := ih (fun j hj => h j (by omega)) (by omega)
      have := h n (by omega)
      omega
theorem sumI_mul (f : Nat → Int) (c : Int) (n : Nat) : sumI (fun i => c * f i) n = c * sumI f n := by
  induction n with
  | zero => simp [sumI]
  | succ n ih => simp only [sumI]; rw [ih, Int.mul_add]
theorem sumI_add (f g : Nat → Int) (n : Nat) : sumI (fun i => f i + g i) n = sumI f n + sumI g n := by
  induction n with
  | zero => simp [sumI]
  | succ n ih => simp only [sumI]; rw [ih]; omega
theorem sumI_const (c : Int) (n : Nat) : sumI (fun _ => c) n = n * c := by
  induction n with
  | zero => simp [sumI]
  | succ n ih =>
    simp only [sumI]
    rw [ih, show ((n + 1 : Nat) : Int) * c = n * c + c by rw [Int.natCast_add, Int.add_mul]; simp]
def lsum (l : List Int) : Int := sumI (fun i => l.getD i 0) l.length
def okW (x : Int) : Bool := decide (0 ≤ x) && decide (x ≤ 1000000000000)
theorem okW_iff (x : Int) : okW x = true ↔ 0 ≤ x ∧ x ≤ 1000000000000 := by unfold okW; simp
theorem okW_no (x : Int) (h : x < 0 ∨ 1000000000000 < x) : okW x = false := by
  cases z : okW x
  · rfl
  · have := (okW_iff x).mp z; omega
theorem getD_of (l : List Int) (i : Nat) (h : i < l.length) : l.getD i 0 = l[i] := by simp [List.getD_eq_getElem?_getD, h]
theorem ok_at {l : List Int} (h : l.all okW = true) (i : Nat) (hi : i < l.length) : 0 ≤ l.getD i 0 ∧ l.getD i 0 ≤ 1000000000000 := by
  rw [getD_of l i hi]
  exact (okW_iff _).mp (List.all_eq_true.mp h _ (List.getElem_mem hi))
theorem drop_all (l : List Int) (i : Nat) (h : i < l.length) : (l.drop i).all okW = (okW (l.getD i 0) && (l.drop (i + 1)).all okW) := by
  rw [List.drop_eq_getElem_cons h, List.all_cons, getD_of l i h]
def checkS (a0 : Int) (l : List Int) : Int × Int := if 1000 < l.length then (0, 8) else if a0 < 0 ∨ 1000000000000 < a0 ∨ l.all okW = false then (0, 2) else if l.length = 0 ∧ 0 < a0 then (0, 7) else (lsum l, 0)
theorem check_l0 (a0 : Int) (l : List Int) (hl : l.length ≤ 1000) (n : Nat) : ∀ i : Nat, i + n = l.length → (∀ j, j < i → 0 ≤ l.getD j 0 ∧ l.getD j 0 ≤ 1000000000000) →
    Ev (fun k => apportion_check.l0 k a0 l (sumI (fun i => l.getD i 0) i) l (l.length : Int) (i : Int)) (if (l.drop i).all okW = true then (if l.length = 0 ∧ 0 < a0 then (0, 7) else (lsum l, 0)) else (0, 2)) := by
  induction n with
  | zero =>
    intro i h0 hp
    obtain rfl : i = l.length := by omega
    refine Ev.up ?_
    simp only [apportion_check.l0]
    refine Ev.neg (by omega) ?_
    rw [List.drop_length, List.all_nil, if_pos rfl]
    refine Ev.ite (fun c => ?_) (fun c => ?_)
    · refine Ev.ite (fun d => ?_) (fun d => ?_)
      · rw [if_pos ⟨by omega, by omega⟩]; exact Ev.now _
      · rw [if_neg (by omega)]; exact Ev.now _
    · rw [if_neg (by omega)]; exact Ev.now _
  | succ n ih =>
    intro i h0 hp
    refine Ev.up ?_
    simp only [apportion_check.l0, rd_nat]
    have hi : i < l.length := by omega
    refine Ev.pos (by omega) (Ev.pos (by omega) (Ev.pos (by omega) ?_))
    rw [drop_all l i hi]
    by_cases c : l.getD i 0 < 0
    · refine Ev.pos c ?_
      have : okW (l.getD i 0) = false := okW_no _ (.inl c)
      rw [this, Bool.false_and, if_neg (by decide)]; exact Ev.now _
    · refine Ev.neg c ?_
      by_cases d : l.getD i 0 > 1000000000000
      · refine Ev.pos d ?_
        have : okW (l.getD i 0) = false := okW_no _ (.inr d)
        rw [this, Bool.false_and, if_neg (by decide)]; exact Ev.now _
      · refine Ev.neg d ?_
        have : okW (l.getD i 0) = true := (okW_iff _).mpr ⟨by omega, by omega⟩
        rw [this, Bool.true_and]
        have hb := sumI_le (f := fun i => l.getD i 0) (n := i) (B := 1000000000000) (fun j hj => hp j hj)
        have hb2 : (i : Int) * 1000000000000 ≤ 1000 * 1000000000000 := by omega
        rw [wrap64_of (by omega) (by omega), wrap64_of (by omega) (by omega)]
        exact ih (i + 1) (by omega) (fun j hj => by
          by_cases e : j = i
          · subst e; exact ⟨by omega, by omega⟩
          · exact hp j (by omega))
theorem check_ev (a0 : Int) (l : List Int) : Ev (fun k => apportion_check.f k a0 l) (checkS a0 l) := by
  unfold apportion_check.f checkS
  refine Ev.ite (fun c => ?_) (fun c => ?_)
  · rw [if_pos (by omega)]; exact Ev.now _
  · rw [if_neg (by omega)]
    have hmain : ∀ b : Bool, (b = true ↔ a0 < 0 ∨ 1000000000000 < a0) → Ev (fun k => apportion_check.j0 k a0 l b) (if a0 < 0 ∨ 1000000000000 < a0 ∨ l.all okW = false then (0, 2) else if l.length = 0 ∧ 0 < a0 then (0, 7) else (lsum l, 0)) := by
      intro b hb
      refine Ev.up ?_
      simp only [apportion_check.j0]
      by_cases e : b = true
      · refine Ev.pos e ?_
        rw [if_pos (by have := hb.mp e; omega)]; exact Ev.now _
      · refine Ev.neg e ?_
        have h := check_l0 a0 l (by omega) l.length 0 (by omega) (fun j hj => absurd hj (by omega))
        have hb2 : ¬ (a0 < 0 ∨ 1000000000000 < a0) := fun z => e (hb.mpr z)
        rw [List.drop_zero] at h
        by_cases f : l.all okW = true
        · rw [if_pos f] at h
          rw [if_neg (by rw [f]; simp; omega)]; exact h
        · rw [if_neg f] at h
          rw [if_pos (.inr (.inr (by simpa using f)))]; exact h
    refine Ev.ite (fun d => ?_) (fun d => ?_)
    · exact hmain true ⟨fun _ => .inl d, fun _ => rfl⟩
    · refine hmain _ ⟨fun h => .inr (by simpa using h), fun h => ?_⟩
      rcases h with h | h
      · omega
      · simpa using h
/- what is left when each has the whole part of its share -/
theorem shLeft_is (total sm : Int) (ws : List Int) (i : Nat) : shLeft total sm ws i = total - sumI (shQ total sm ws) i := by
  induction i with
  | zero => simp [shLeft, sumI]
  | succ i ih => simp only [shLeft, sumI]; rw [ih]; omega
theorem left_mul (total sm : Int) (ws : List Int) (h : lsum ws = sm) : shLeft total sm ws ws.length * sm = sumI (shR total sm ws) ws.length := by
  have e1 : sumI (fun i => sm * shQ total sm ws i + shR total sm ws i) ws.length = total * sm := by
    rw [← h, lsum, ← sumI_mul]
    refine sumI_congr fun i _ => ?_
    unfold shQ shR
    exact Int.mul_ediv_add_emod _ _
  rw [sumI_add, sumI_mul] at e1
  rw [shLeft_is, Int.sub_mul, Int.mul_comm (sumI _ _) sm]
  omega
theorem left_range (total sm : Int) (ws : List Int) (h : lsum ws = sm) (h0 : 0 < sm) (hn : 0 < ws.length) : 0 ≤ shLeft total sm ws ws.length ∧ shLeft total sm ws ws.length < ws.length := by
  have e := left_mul total sm ws h
  have hb := sumI_le (f := shR total sm ws) (n := ws.length) (B := sm - 1) (fun i _ => by
    unfold shR
    have := Int.emod_nonneg (total * ws.getD i 0) (show sm ≠ 0 by omega)
    have := Int.emod_lt_of_pos (total * ws.getD i 0) h0
    omega)
  rw [← e] at hb
  constructor
  · exact Int.le_of_mul_le_mul_right (by omega) h0
  · refine Int.lt_of_mul_lt_mul_right (a := sm) ?_ (by omega)
    have : (ws.length : Int) * (sm - 1) = ws.length * sm - ws.length := by rw [Int.mul_sub, Int.mul_one]
    omega
theorem lsum_ones (l : List Int) : lsum (l.map (fun _ => (1 : Int))) = l.length := by
  unfold lsum
  rw [sumI_congr (g := fun _ => 1) (fun i hi => by rw [getD_of _ i hi]; simp), sumI_const, List.length_map]; omega
theorem shW_sum (l : List Int) (hl : 0 < l.length) (h : l.all okW = true) : lsum (shW (lsum l) l) = shSum (lsum l) l ∧ 0 < shSum (lsum l) l ∧ (∀ i, i < l.length → 0 ≤ (shW (lsum l) l).getD i 0 ∧ (shW (lsum l) l).getD i 0 ≤ 1000000000000 ∧ (shW (lsum l) l).getD i 0 ≤ shSum (lsum l) l) := by
  by_cases c : lsum l = 0
  · rw [c]
    have e1 : shSum 0 l = l.length := if_pos rfl
    have e2 : shW 0 l = l.map (fun _ => 1) := if_pos rfl
    refine ⟨by rw [e1, e2, lsum_ones], by omega, fun i hi => ?_⟩
    rw [shW_zero l i hi]; omega
  · have e1 : shSum (lsum l) l = lsum l := if_neg c
    have e2 : shW (lsum l) l = l := if_neg c
    rw [e1, e2]
    have hb := sumI_le (f := fun i => l.getD i 0) (n := l.length) (B := 1000000000000) (fun j hj => ok_at h j hj)
    refine ⟨rfl, by unfold lsum at *; omega, fun i hi => ⟨(ok_at h i hi).1, (ok_at h i hi).2, sumI_part (f := fun i => l.getD i 0) (fun j hj => (ok_at h j hj).1) i hi⟩⟩
theorem Ev_all {α : Type} {P : Nat → Nat → Prop} (n : Nat) (h : ∀ i, i < n → ∃ K, ∀ k, K ≤ k → P k i) : ∃ K, ∀ k, K ≤ k → ∀ i, i < n → P k i := by
  induction n with
  | zero => exact ⟨0, fun k _ i hi => absurd hi (by omega)⟩
  | succ n ih =>
    obtain ⟨K1, h1⟩ := ih (fun i hi => h i (by omega))
    obtain ⟨K2, h2⟩ := h n (by omega)
    refine ⟨K1 + K2, fun k hk i hi => ?_⟩
    by_cases c : i = n
    · subst c; exact h2 k (by omega)
    · exact h1 k (by omega) i (by omega)
theorem shQ_range (total sm : Int) (ws : List Int) (i : Nat) (h0 : 0 < sm) (ht : 0 ≤ total) (hw0 : 0 ≤ ws.getD i 0) (hw : ws.getD i 0 ≤ sm) : 0 ≤ shQ total sm ws i ∧ shQ total sm ws i ≤ total := by
  unfold shQ
  refine ⟨Int.ediv_nonneg (Int.mul_nonneg ht hw0) (by omega), ?_⟩
  refine Int.le_trans (Int.ediv_le_ediv h0 (Int.mul_le_mul_of_nonneg_left hw ht)) ?_
  rw [Int.mul_ediv_cancel _ (by omega)]; exact Int.le_refl _
theorem shAll_ev (total : Int) (l : List Int) (hl : 0 < l.length) (hn : l.length ≤ 1000) (h : l.all okW = true) (h0 : 0 ≤ total) (h1 : total ≤ 1000000000000) : ∃ K, ∀ k, K ≤ k → shAll k total (shSum (lsum l) l) (shW (lsum l) l) = true := by
  obtain ⟨e, hp, hw⟩ := shW_sum l hl h
  have hlen := shW_len (lsum l) l
  generalize shSum (lsum l) l = sm at *
  generalize shW (lsum l) l = ws at *
  have hsm : sm ≤ 1000000000000000 := by
    rw [← e]
    have hb := sumI_le (f := fun i => ws.getD i 0) (n := ws.length) (B := 1000000000000) (fun j hj => ⟨(hw j (by omega)).1, (hw j (by omega)).2.1⟩)
    have hb2 : (ws.length : Int) * 1000000000000 ≤ 1000 * 1000000000000 := by omega
    unfold lsum; omega
  have hlr := left_range total sm ws e hp (by omega)
  have hu : ∀ x : Int, 0 ≤ x → x ≤ 1000000000000000 → U64 x := fun x h1 h2 => ⟨h1, by omega⟩
  obtain ⟨K, hK⟩ := Ev_all (α := Int) (P := fun k i => exact_MulDiv.f k (IntKind.u64.wrap total) (IntKind.u64.wrap (ws.getD i 0)) (IntKind.u64.wrap sm) 0 = some (shQ total sm ws i, 0) ∧ exact_MulMod.f k (IntKind.u64.wrap total) (IntKind.u64.wrap (ws.getD i 0)) (IntKind.u64.wrap sm) = some (shR total sm ws i)) ws.length (fun i hi => by
    have w := hw i (by omega)
    rw [w64_in h0 (by omega), w64_in w.1 (by omega), w64_in (by omega : 0 ≤ sm) (by omega)]
    obtain ⟨K1, k1⟩ := exactMulDiv_ev total (ws.getD i 0) sm 0 (hu _ h0 (by omega)) (hu _ w.1 (by omega)) (hu _ (by omega) hsm)
    obtain ⟨K2, k2⟩ := exactMulMod_ev total (ws.getD i 0) sm (hu _ h0 (by omega)) (hu _ w.1 (by omega)) (hu _ (by omega) hsm)
    have hq := shQ_range total sm ws i hp h0 w.1 w.2.2
    have e1 : divS (total * ws.getD i 0) sm 0 = (shQ total sm ws i, 0) := by
      unfold divS
      rw [if_neg (by omega)]
      have e2 : rdiv (total * ws.getD i 0) sm 0 = shQ total sm ws i := by
        unfold rdiv rup shQ; simp
      rw [e2, if_neg (by omega)]
    have e3 : modS (total * ws.getD i 0) sm = shR total sm ws i := by
      unfold modS shR; rw [if_neg (by omega)]
    exact ⟨K1 + K2, fun k hk => ⟨by rw [← e1]; exact k1 k (by omega), by rw [← e3]; exact k2 k (by omega)⟩⟩)
  refine ⟨K, fun k hk => ?_⟩
  unfold shAll
  simp only [Bool.and_eq_true, List.all_eq_true, decide_eq_true_eq]
  refine ⟨⟨⟨⟨fun i hi => ?_, by omega⟩, h0⟩, h1⟩, by omega⟩
  have hi := List.mem_range.mp hi
  have w := hw i (by omega)
  have hq := shQ_range total sm ws i hp h0 w.1 w.2.2
  unfold shOk
  simp only [Bool.and_eq_true, decide_eq_true_eq]
  exact ⟨⟨hK k hk i hi, hq.1⟩, by omega⟩
def shareS (a0 : Int) (l : List Int) : List Int × Int := if (checkS a0 l).2 = 0 ∧ 0 < l.length then (shOut a0 (shSum (lsum l) l) (shW (lsum l) l), 0) else ([], (checkS a0 l).2)
theorem checkS_ok {a0 : Int} {l : List Int} (h : (checkS a0 l).2 = 0) : l.length ≤ 1000 ∧ 0 ≤ a0 ∧ a0 ≤ 1000000000000 ∧ l.all okW = true ∧ (checkS a0 l).1 = lsum l ∧ (l.length = 0 → a0 = 0) := by
  unfold checkS at *
  by_cases c : 1000 < l.length
  · rw [if_pos c] at h; exact absurd h (by decide)
  · rw [if_neg c] at h ⊢
    by_cases d : a0 < 0 ∨ 1000000000000 < a0 ∨ l.all okW = false
    · rw [if_pos d] at h; exact absurd h (by decide)
    · rw [if_neg d] at h ⊢
      by_cases f : l.length = 0 ∧ 0 < a0
      · rw [if_pos f] at h; exact absurd h (by decide)
      · rw [if_neg f]
        refine ⟨by omega, by omega, by omega, ?_, rfl, by omega⟩
        cases z : l.all okW
        · exact absurd (.inr (.inr z)) d
        · rfl
theorem checkS_of {a0 : Int} {l : List Int} (hn : l.length ≤ 1000) (h0 : 0 ≤ a0) (h1 : a0 ≤ 1000000000000) (h : l.all okW = true) (hz : l.length = 0 → a0 = 0) : checkS a0 l = (lsum l, 0) := by
  unfold checkS
  rw [if_neg (by omega), if_neg (by rw [h]; simp; omega), if_neg (by omega)]
theorem share_ev (a0 : Int) (l : List Int) : Ev (fun k => apportion_Share.f k a0 l) (shareS a0 l) := by
  unfold apportion_Share.f
  refine Ev.bind (check_ev a0 l) ?_
  unfold shareS
  by_cases c : (checkS a0 l).2 = 0 ∧ 0 < l.length
  · rw [if_pos c]
    obtain ⟨k1, k2, k3, k4, k5, _⟩ := checkS_ok c.1
    refine Ev.pos c ?_
    obtain ⟨K, hK⟩ := shAll_ev a0 l c.2 k1 k4 k2 k3
    rw [k5]
    exact ⟨K, fun k hk => if_pos (hK k hk)⟩
  · rw [if_neg c]
    exact Ev.neg c (Ev.now _)
end Go.Proofs.Ytidonenkdibaoaa.PX
end
section
namespace Go.Proofs.Ytidonenkdibaoaa.PX
open Go.RowKit Go.Proofs.YtidonenkdibaoaaW.PrintWords Go.Proofs.YtidonenkdibaoaaW.PrintLast Go.Proofs.YtidonenkdibaoaaW.PrintMore
set_option linter.unusedVariables false
set_option linter.unusedSimpArgs false

theorem shOut_len (t sm : Int) (ws : List Int) : (shOut t sm ws).length = ws.length := by unfold shOut; simp
/- the unit more -/
def shX (t sm : Int) (ws : List Int) (i : Nat) : Int := if (rank (shR t sm ws) ws.length i : Int) < shLeft t sm ws ws.length then 1 else 0
theorem shX_range (t sm : Int) (ws : List Int) (i : Nat) : 0 ≤ shX t sm ws i ∧ shX t sm ws i ≤ 1 := by unfold shX; split <;> omega
theorem shOut_at (t sm : Int) (ws : List Int) (i : Nat) (hi : i < ws.length) : (shOut t sm ws).getD i 0 = shQ t sm ws i + shX t sm ws i := by
  unfold shOut shX
  rw [List.getD_eq_getElem?_getD, List.getElem?_map, List.getElem?_range hi]; rfl
/- no unit goes where the remainder is 0 -/
/- a smaller or later claim never gets more -/
theorem shX_le (t sm : Int) (ws : List Int) (i j : Nat) (hi : i < ws.length) (hj : j < ws.length) (h : ltR (shR t sm ws) i j) : shX t sm ws j ≤ shX t sm ws i := by
  have h1 := (rank_iff (shR t sm ws) ws.length i j hi hj).mpr h
  unfold shX
  by_cases c : (rank (shR t sm ws) ws.length j : Int) < shLeft t sm ws ws.length
  · rw [if_pos c, if_pos (by omega)]; exact Int.le_refl _
  · rw [if_neg c]; split <;> omega
theorem qr (t sm : Int) (ws : List Int) (i : Nat) : t * ws.getD i 0 = sm * shQ t sm ws i + shR t sm ws i := by
  unfold shQ shR; exact (Int.mul_ediv_add_emod _ _).symm
/- equal quotients: what is more leaves more -/
theorem sh_le (t sm : Int) (ws : List Int) (h0 : 0 < sm) (ht : 0 ≤ t) (i j : Nat) (hi : i < ws.length) (hj : j < ws.length) (hw : ws.getD j 0 ≤ ws.getD i 0) (hl : shR t sm ws i = shR t sm ws j → i < j) : shQ t sm ws j + shX t sm ws j ≤ shQ t sm ws i + shX t sm ws i := by
  have hm : t * ws.getD j 0 ≤ t * ws.getD i 0 := Int.mul_le_mul_of_nonneg_left hw ht
  have hq : shQ t sm ws j ≤ shQ t sm ws i := Int.ediv_le_ediv h0 hm
  have x1 := shX_range t sm ws i
  have x2 := shX_range t sm ws j
  by_cases c : shQ t sm ws j = shQ t sm ws i
  · have e1 := qr t sm ws i
    have e2 := qr t sm ws j
    rw [c] at e2
    have hr : shR t sm ws j ≤ shR t sm ws i := by omega
    have := shX_le t sm ws i j hi hj (by
      unfold ltR
      by_cases d : shR t sm ws i = shR t sm ws j
      · exact .inr ⟨d, hl d⟩
      · exact .inl (by omega))
    omega
  · omega
/- with nothing to share nobody gets anything -/
theorem sh_zero (sm : Int) (ws : List Int) (i : Nat) : shQ 0 sm ws i = 0 ∧ shX 0 sm ws i = 0 := by
  have hq : ∀ i, shQ 0 sm ws i = 0 := fun i => by unfold shQ; rw [Int.zero_mul, Int.zero_ediv]
  refine ⟨hq i, ?_⟩
  unfold shX
  rw [shLeft_is, sumI_congr (g := fun _ => 0) (fun i _ => hq i), sumI_const, if_neg (by omega)]
/- a greater weight never gets less, and of equal ones the first gets no less -/
theorem shOut_order (t sm : Int) (ws : List Int) (h0 : 0 < sm) (ht : 0 ≤ t) (i j : Nat) (hij : i < j) (hj : j < ws.length) :
    (ws.getD j 0 ≤ ws.getD i 0 → (shOut t sm ws).getD j 0 ≤ (shOut t sm ws).getD i 0) ∧ (ws.getD i 0 < ws.getD j 0 → (shOut t sm ws).getD i 0 ≤ (shOut t sm ws).getD j 0) := by
  rw [shOut_at t sm ws i (by omega), shOut_at t sm ws j hj]
  refine ⟨fun h => sh_le t sm ws h0 ht i j (by omega) hj h (fun _ => hij), fun h => ?_⟩
  by_cases c : t = 0
  · subst c
    rw [(sh_zero sm ws i).1, (sh_zero sm ws i).2, (sh_zero sm ws j).1, (sh_zero sm ws j).2]; exact Int.le_refl _
  · have hm : t * ws.getD i 0 < t * ws.getD j 0 := Int.mul_lt_mul_of_pos_left h (by omega)
    have hq : shQ t sm ws i ≤ shQ t sm ws j := Int.ediv_le_ediv h0 (by omega)
    have x1 := shX_range t sm ws i
    have x2 := shX_range t sm ws j
    by_cases d : shQ t sm ws i = shQ t sm ws j
    · have e1 := qr t sm ws i
      have e2 := qr t sm ws j
      rw [d] at e1
      have := shX_le t sm ws j i hj (by omega) (.inl (by omega))
      omega
    · omega
/- a factor in all weights -/
end Go.Proofs.Ytidonenkdibaoaa.PX
end
section
namespace Go.Proofs.Ytidonenkdibaoaa.PX
open Go.RowKit Go.Proofs.YtidonenkdibaoaaW.PrintWords Go.Proofs.YtidonenkdibaoaaW.PrintLast Go.Proofs.YtidonenkdibaoaaW.PrintMore
set_option linter.unusedVariables false
set_option linter.unusedSimpArgs false

def capS (a0 : Int) (l : List Int) : List Int × Int := if (shareS a0 l).2 = 7 then ([], 0) else if (shareS a0 l).2 = 0 then (if lsum l ≤ a0 then (l, 0) else ((shareS a0 l).1, 0)) else ([], (shareS a0 l).2)
theorem shareS_err (a0 : Int) (l : List Int) : (shareS a0 l).2 = (checkS a0 l).2 := by
  unfold shareS
  split
  · rename_i h; exact h.1.symm
  · rfl
theorem cap_l0 (a0 : Int) (l sh : List Int) (hl : l.length ≤ 1000) (hok : l.all okW = true) (n : Nat) : ∀ i : Nat, i + n = l.length → Ev (fun k => apportion_Cap.l0 k a0 l sh (sumI (fun i => l.getD i 0) i) l (l.length : Int) (i : Int)) (if lsum l ≤ a0 then (l, 0) else (sh, 0)) := by
  induction n with
  | zero =>
    intro i h0
    obtain rfl : i = l.length := by omega
    refine Ev.up ?_
    simp only [apportion_Cap.l0]
    refine Ev.neg (by omega) ?_
    refine Ev.ite (fun c => ?_) (fun c => ?_)
    · rw [if_pos (show lsum l ≤ a0 from c)]
      refine Ev.pos (by simp; omega) ?_
      exact Ev.now _
    · rw [if_neg (show ¬ lsum l ≤ a0 from c)]; exact Ev.now _
  | succ n ih =>
    intro i h0
    refine Ev.up ?_
    simp only [apportion_Cap.l0, rd_nat]
    refine Ev.pos (by omega) (Ev.pos (by omega) (Ev.pos (by omega) ?_))
    have hb := sumI_le (f := fun i => l.getD i 0) (n := i) (B := 1000000000000) (fun j hj => ok_at hok j (by omega))
    have hb2 : (i : Int) * 1000000000000 ≤ 1000 * 1000000000000 := by omega
    have hi := ok_at hok i (by omega)
    rw [wrap64_of (by omega) (by omega), wrap64_of (by omega) (by omega)]
    exact ih (i + 1) (by omega)
theorem cap_ev (a0 : Int) (l : List Int) : Ev (fun k => apportion_Cap.f k a0 l) (capS a0 l) := by
  unfold apportion_Cap.f capS
  refine Ev.bind (share_ev a0 l) ?_
  refine Ev.ite (fun c => ?_) (fun c => ?_)
  · rw [if_pos c]; exact Ev.now _
  · rw [if_neg c]
    refine Ev.ite (fun d => ?_) (fun d => ?_)
    · rw [if_pos d]
      obtain ⟨h1, h2, h3, h4, _⟩ := checkS_ok ((shareS_err a0 l).symm.trans d)
      exact cap_l0 a0 l (shareS a0 l).1 h1 h4 l.length 0 (by omega)
    · rw [if_neg d]; exact Ev.now _
theorem same_l0 (l : List Int) (hl : l.length < 4611686018427387904) (n : Nat) : ∀ i : Nat, i + n = l.length → Ev (fun k => customsref02_Same.l0 k l l (i : Int)) true := by
  induction n with
  | zero =>
    intro i h0
    refine Ev.up ?_
    simp only [customsref02_Same.l0]
    exact Ev.neg (by omega) (Ev.now _)
  | succ n ih =>
    intro i h0
    refine Ev.up ?_
    simp only [customsref02_Same.l0]
    refine Ev.pos (by omega) (Ev.pos (by omega) (Ev.pos (by omega) ?_))
    refine Ev.congr (fun k => if_pos trivial) ?_
    rw [wrap64_of (by omega) (by omega)]
    exact ih (i + 1) (by omega)
theorem same_ev (l : List Int) (hl : l.length < 4611686018427387904) : Ev (fun k => customsref02_Same.f k l l) true := by
  unfold customsref02_Same.f
  exact Ev.pos rfl (same_l0 l hl l.length 0 (by omega))
theorem share_fix : shareS 100 [1, 1, 1] = ([34, 33, 33], 0) := by decide +kernel
theorem cap_fix : capS 10 [4, 16] = ([2, 8], 0) := by decide +kernel
theorem awake_ev : Ev (fun k => customslaw03_awake.f k) true := by
  unfold customslaw03_awake.f
  refine Ev.bind (share_ev 100 [1, 1, 1]) ?_
  refine Ev.bind (cap_ev 10 [4, 16]) ?_
  rw [share_fix, cap_fix]
  refine Ev.pos rfl (Ev.pos rfl ?_)
  refine Ev.bind (same_ev [34, 33, 33] (by decide)) ?_
  refine Ev.pos rfl ?_
  exact Ev.bind (same_ev [2, 8] (by decide)) (Ev.now _)
theorem tmod_rng (x m : Int) (hm : 0 < m) : -m < Int.tmod x m ∧ Int.tmod x m < m := by
  by_cases h : 0 ≤ x
  · rw [Int.tmod_eq_emod_of_nonneg h]
    have := Int.emod_nonneg x (show m ≠ 0 by omega)
    have := Int.emod_lt_of_pos x hm
    omega
  · have e : Int.tmod x m = -((-x) % m) := by
      have := Int.neg_tmod (-x) m
      rw [Int.neg_neg] at this
      rw [this, Int.tmod_eq_emod_of_nonneg (by omega)]
    have := Int.emod_nonneg (-x) (show m ≠ 0 by omega)
    have := Int.emod_lt_of_pos (-x) hm
    omega
theorem total_is (a0 : Int) (h : I64 a0) (b : Bool) : ∃ t : Int, customslaw03_total.f a0 b = some t ∧ 0 ≤ t ∧ t ≤ 1000000000000 := by
  unfold customslaw03_total.f
  have e1 := tmod_rng a0 1000000000001 (by decide)
  have e2 : wrap64 (-(Int.tmod a0 1000000000001)) = -(Int.tmod a0 1000000000001) := wrap64_of (by omega) (by omega)
  rw [e2]
  generalize Int.tmod a0 1000000000001 = x at *
  have e3 : 0 ≤ mx x (-x) ∧ mx x (-x) ≤ 1000000000000 := by unfold mx; split <;> omega
  by_cases c : b = true
  · rw [if_pos c]
    refine ⟨_, rfl, ?_⟩
    rw [Int.tmod_eq_emod_of_nonneg e3.1]; omega
  · rw [if_neg c]
    exact ⟨_, rfl, e3⟩
theorem set_ok {l : List Int} (h : l.all okW = true) (i : Nat) {v : Int} (hv : 0 ≤ v ∧ v ≤ 1000000000000) : (l.set i v).all okW = true := by
  refine List.all_eq_true.mpr fun x hx => ?_
  rcases List.mem_or_eq_of_mem_set hx with h1 | h1
  · exact List.all_eq_true.mp h x h1
  · rw [h1]; exact (okW_iff v).mpr hv
theorem weights_l0 (l : List Int) (hl : l.length ≤ 60) (b : Bool) (n : Nat) : ∀ (i : Nat) (x : List Int), i + n = l.length → x.length = l.length → x.all okW = true → ∃ ws, Ev (fun k => customslaw03_weights.l0 k l b x (i : Int)) ws ∧ ws.length = l.length ∧ ws.all okW = true := by
  induction n with
  | zero =>
    intro i x h0 h1 h2
    refine ⟨x, Ev.up ?_, h1, h2⟩
    simp only [customslaw03_weights.l0]
    exact Ev.neg (by omega) (Ev.now _)
  | succ n ih =>
    intro i x h0 h1 h2
    have e1 := tmod_rng (rd l (i : Int)) 1000000000001 (by decide)
    have e2 : wrap64 (-(Int.tmod (rd l (i : Int)) 1000000000001)) = -(Int.tmod (rd l (i : Int)) 1000000000001) := wrap64_of (by omega) (by omega)
    have e3 : 0 ≤ mx (Int.tmod (rd l (i : Int)) 1000000000001) (-(Int.tmod (rd l (i : Int)) 1000000000001)) ∧ mx (Int.tmod (rd l (i : Int)) 1000000000001) (-(Int.tmod (rd l (i : Int)) 1000000000001)) ≤ 1000000000000 := by unfold mx; split <;> omega
    generalize hv : mx (Int.tmod (rd l (i : Int)) 1000000000001) (-(Int.tmod (rd l (i : Int)) 1000000000001)) = v at e3
    have e4 : 0 ≤ Int.tmod v 5 ∧ Int.tmod v 5 ≤ 1000000000000 := by rw [Int.tmod_eq_emod_of_nonneg e3.1]; omega
    have ew : wrap64 ((i : Int) + 1) = ((i + 1 : Nat) : Int) := wrap64_of (by omega) (by omega)
    by_cases c : b = true
    · obtain ⟨ws, h3, h4⟩ := ih (i + 1) ((x.set i v).set i (Int.tmod v 5)) (by omega) (by simpa using h1) (set_ok (set_ok h2 i e3) i e4)
      refine ⟨ws, Ev.up ?_, h4⟩
      simp only [customslaw03_weights.l0]
      rw [e2, hv, ew]
      refine Ev.pos (by omega) (Ev.pos (by omega) (Ev.pos (by omega) ?_))
      simp only [Option.bind_some, Int.toNat_natCast]
      exact Ev.pos c h3
    · obtain ⟨ws, h3, h4⟩ := ih (i + 1) (x.set i v) (by omega) (by simpa using h1) (set_ok h2 i e3)
      refine ⟨ws, Ev.up ?_, h4⟩
      simp only [customslaw03_weights.l0]
      rw [e2, hv, ew]
      refine Ev.pos (by omega) (Ev.pos (by omega) (Ev.pos (by omega) ?_))
      simp only [Option.bind_some, Int.toNat_natCast]
      exact Ev.neg c h3
theorem zeros_ok (n : Nat) : (List.replicate n (0 : Int)).all okW = true := by
  refine List.all_eq_true.mpr fun x hx => ?_
  rw [List.eq_of_mem_replicate hx]; decide
theorem weights_j0 (l : List Int) (hl : l.length ≤ 60) (b : Bool) : ∃ ws, Ev (fun k => customslaw03_weights.j0 k l b) ws ∧ ws.length = l.length ∧ ws.all okW = true := by
  obtain ⟨ws, h1, h2⟩ := weights_l0 l hl b l.length 0 (List.replicate l.length 0) (by omega) (by simp) (zeros_ok _)
  refine ⟨ws, Ev.up ?_, h2⟩
  simp only [customslaw03_weights.j0, Int.toNat_natCast]
  exact Ev.pos (by omega) (Ev.pos (by omega) h1)
theorem weights_ev (l : List Int) (b : Bool) : ∃ ws, Ev (fun k => customslaw03_weights.f k l b) ws ∧ ws.length ≤ 60 ∧ ws.all okW = true := by
  unfold customslaw03_weights.f
  by_cases c : (l.length : Int) > 60
  · obtain ⟨ws, h1, h2, h3⟩ := weights_j0 (l.take 60) (by rw [List.length_take]; omega) b
    exact ⟨ws, Ev.pos c (Ev.pos (by omega) h1), by rw [h2, List.length_take]; omega, h3⟩
  · obtain ⟨ws, h1, h2, h3⟩ := weights_j0 l (by omega) b
    exact ⟨ws, Ev.neg c h1, by omega, h3⟩
/- the share of a valid total and valid weights -/
theorem share_ok {t : Int} {ws : List Int} (hn : ws.length ≤ 1000) (hl : 0 < ws.length) (h0 : 0 ≤ t) (h1 : t ≤ 1000000000000) (h : ws.all okW = true) : shareS t ws = (shOut t (shSum (lsum ws) ws) (shW (lsum ws) ws), 0) := by
  unfold shareS
  rw [if_pos]
  rw [checkS_of hn h0 h1 h (fun h => by omega)]
  exact ⟨rfl, hl⟩
theorem share_none {t : Int} {ws : List Int} (hl : ws.length = 0) (h0 : 0 ≤ t) (h1 : t ≤ 1000000000000) : shareS t ws = ([], if 0 < t then 7 else 0) := by
  unfold shareS
  rw [if_neg (by omega)]
  unfold checkS
  have : ws = [] := List.eq_nil_of_length_eq_zero hl
  subst this
  rw [if_neg (by decide), if_neg (by simp; omega)]
  by_cases c : 0 < t
  · rw [if_pos ⟨rfl, c⟩, if_pos c]
  · rw [if_neg (by omega), if_neg c]
end Go.Proofs.Ytidonenkdibaoaa.PX
end
section
namespace Go.Proofs.Ytidonenkdibaoaa.Pure
open Go.RowKit Go.Proofs.Ytidonenkdibaoaa.PX Go.Proofs.YtidonenkdibaoaaW.PrintWords Go.Proofs.YtidonenkdibaoaaW.PrintLast Go.Proofs.YtidonenkdibaoaaW.PrintMore
set_option linter.unusedVariables false
set_option linter.unusedSimpArgs false

theorem order_l0 (ws sh : List Int) (hn : ws.length ≤ 60) (hl : sh.length = ws.length) (h : ∀ i j : Nat, i < j → j < ws.length → (ws.getD j 0 ≤ ws.getD i 0 → sh.getD j 0 ≤ sh.getD i 0) ∧ (ws.getD i 0 < ws.getD j 0 → sh.getD i 0 ≤ sh.getD j 0)) (n : Nat) :
    ∀ i : Nat, i + n = ws.length → Ev (fun k => customslaw03_ShareOrder.l0 k ws sh (i : Int)) true := by
  induction n with
  | zero =>
    intro i h0
    refine Ev.up ?_
    simp only [customslaw03_ShareOrder.l0]
    refine Ev.neg (by omega) ?_
    exact Ev.bind awake_ev (Ev.now _)
  | succ n ih =>
    intro i h0
    have hin : ∀ m j : Nat, j + m = ws.length → i < j → Ev (fun k => customslaw03_ShareOrder.l1 k ws sh (i : Int) (j : Int)) true := by
      intro m
      induction m with
      | zero =>
        intro j h1 h2
        refine Ev.up ?_
        simp only [customslaw03_ShareOrder.l1]
        refine Ev.neg (by omega) ?_
        rw [wrap64_of (by omega) (by omega)]
        exact ih (i + 1) (by omega)
      | succ m im =>
        intro j h1 h2
        refine Ev.up ?_
        simp only [customslaw03_ShareOrder.l1, rd_nat]
        obtain ⟨g1, g2⟩ := h i j h2 (by omega)
        have hnext := im (j + 1) (by omega) (by omega)
        rw [wrap64_of (show -9223372036854775808 ≤ (j : Int) + 1 by omega) (by omega)]
        refine Ev.pos (by omega) (Ev.pos (by omega) (Ev.pos (by omega) (Ev.pos (by omega) ?_)))
        refine Ev.ite (fun c => ?_) (fun c => ?_)
        · refine Ev.pos (by omega) (Ev.pos (by omega) (Ev.neg (by have := g1 c; omega) ?_))
          refine Ev.ite (fun d => ?_) (fun d => ?_)
          · exact absurd d (by omega)
          · exact hnext
        · refine Ev.pos (by omega) (Ev.pos (by omega) (Ev.pos (by omega) (Ev.neg (by have := g2 (by omega); omega) hnext)))
    refine Ev.up ?_
    simp only [customslaw03_ShareOrder.l0]
    refine Ev.pos (by omega) ?_
    rw [wrap64_of (by omega) (by omega)]
    exact hin n (i + 1) (by omega) (by omega)
theorem ShareOrder : customslaw03_ShareOrder.Pure := by
  intro a0 l1 a2 ha _ _ _
  refine Ev.rounds (r := true) ?_
  unfold customslaw03_ShareOrder.f
  obtain ⟨t, e, h0, h1⟩ := total_is a0 (i64_of_wf ha) a2
  obtain ⟨ws, hw, hn, hok⟩ := weights_ev l1 a2
  rw [e]
  refine Ev.bind (a := t) (Ev.now _) ?_
  refine Ev.bind hw (Ev.bind (share_ev t ws) ?_)
  by_cases c : 0 < ws.length
  · rw [share_ok (by omega) c h0 h1 hok]
    obtain ⟨s1, s2, s3⟩ := shW_sum ws c hok
    have hlen := shW_len (lsum ws) ws
    refine Ev.pos rfl (Ev.pos (by rw [shOut_len, hlen]) ?_)
    refine order_l0 ws _ (by omega) (by rw [shOut_len, hlen]) (fun i j hij hj => ?_) ws.length 0 (by omega)
    have ho := shOut_order t (shSum (lsum ws) ws) (shW (lsum ws) ws) s2 h0 i j hij (by omega)
    by_cases z : lsum ws = 0
    · rw [z] at ho ⊢
      rw [shW_zero ws i (by omega), shW_zero ws j hj] at ho
      have p0 : ∀ p, p < ws.length → ws.getD p 0 = 0 := fun p hp => by
        have q1 := sumI_part (f := fun i => ws.getD i 0) (n := ws.length) (fun q hq => (ok_at hok q hq).1) p hp
        have q2 := (ok_at hok p hp).1
        unfold lsum at z
        omega
      rw [p0 i (by omega), p0 j hj]
      exact ⟨fun _ => ho.1 (by omega), fun h => absurd h (by omega)⟩
    · have e2 : shW (lsum ws) ws = ws := if_neg z
      rw [e2] at ho ⊢
      exact ho
  · rw [share_none (by omega) h0 h1]
    by_cases d : 0 < t
    · rw [if_pos d]
      exact Ev.neg (by decide) (Ev.bind awake_ev (Ev.now _))
    · rw [if_neg d]
      refine Ev.pos rfl (Ev.pos (by simp; omega) ?_)
      exact order_l0 ws [] (by omega) (by simp; omega) (fun i j _ hj => absurd hj (by omega)) ws.length 0 (by omega)
end Go.Proofs.Ytidonenkdibaoaa.Pure
end
