/- Texts of this session joined by a small program: plain Lean functions with the answers of Go functions of this seat, proofs that the machine's calls come to them, and plain laws over them that the claim CurrencyValidate uses. -/
import Derived.Test.YtpmdlhncfggjkaaProg
import Derived.RegionTactic
import Derived.Maps.Own
import Derived.Maps.OwnOps
import Derived.Maps.OwnSet
import Derived.Laws.Externs
import Derived.WalkLawsBesides
import Derived.Deep.RegionLaw
import Derived.IntWalk
import Derived.Below
import Derived.Deep.Draws
import Derived.Deep.AppendLies
import Derived.Maps.AppendAt
import Derived.OwnWalk
import Derived.Laws.BytesArg
import Derived.Laws.MakeOwn
import Derived.Laws.OwnMore
import Derived.Deep.OwnRows
import Derived.Tactics
import Derived.Lib.ConvBytes
import Derived.Laws.Slices
import Derived.WalkKit
import Derived.KernelRfl
import Derived.RowKit3
import Derived.Deep.LoopGhost
import Derived.Deep.QuietTactic
import Derived.BigQuiet
import Derived.WideLaws
import Derived.Deep.DeepCutAuto
import Derived.Deep.CutBlock
import Derived.Deep.RegionHeld3
import Derived.Laws.Rows
import Derived.Lib.AppendStr
import Derived.ArgAppend
import Derived.Laws.IdiomCopy
import Derived.OrdersHeld
import Derived.Laws.BitsLemmas
import Derived.RowKit
import Derived.Test.YtpmdlhncfggjkaaWWords
import Derived.Test.YtpmdlhncfggjkaaWLast
import Derived.Test.YtpmdlhncfggjkaaWTab
import Derived.Test.YtpmdlhncfggjkaaWFour
import Derived.Test.YtpmdlhncfggjkaaWQPut
import Derived.Test.YtpmdlhncfggjkaaWApart
import Derived.Test.YtpmdlhncfggjkaaWArr
import Derived.Test.YtpmdlhncfggjkaaWZeros
import Derived.Test.YtpmdlhncfggjkaaWFoot
import Derived.Test.YtpmdlhncfggjkaaWKept
import Derived.Test.YtpmdlhncfggjkaaWShare
import Derived.Test.YtpmdlhncfggjkaaWN
import Derived.Test.YtpmdlhncfggjkaaWFootNe
import Derived.Test.YtpmdlhncfggjkaaWAt
import Derived.Test.YtpmdlhncfggjkaaWEqStruct
import Derived.Test.YtpmdlhncfggjkaaWRepsOne
import Derived.Test.YtpmdlhncfggjkaaWInv
import Derived.Test.YtpmdlhncfggjkaaWInvWords
import Derived.Test.YtpmdlhncfggjkaaWGuard
import Derived.Test.YtpmdlhncfggjkaaWNEv
import Derived.Test.YtpmdlhncfggjkaaWMore
import Derived.Laws.Bits64
import Derived.Sort.Walk0
import Derived.Deep.Slices
import Derived.SizedLaws
import Derived.ChangeArms
import Derived.Test.YtpmdlhncfggjkaaMCurrencyValidate4
section
namespace Go.Proofs.Ytpmdlhncfggjkaa.PX
open Go.RowKit Go.Proofs.YtpmdlhncfggjkaaW.PrintWords Go.Proofs.YtpmdlhncfggjkaaW.PrintLast Go.Proofs.YtpmdlhncfggjkaaW.PrintMore
set_option linter.unusedVariables false
set_option linter.unusedSimpArgs false

/- each row is good by itself and behind its predecessor -/
def chain (p : Option S25) : List S25 → Prop
  | [] => True
  | x :: xs => okCode x.f0 = true ∧ ¬ badRow x ∧ (∀ q, p = some q → ¬ badTwo q x) ∧ chain (some x) xs
theorem chain_at : ∀ (t : List S25) (p : Option S25), chain p t → ∀ j : Nat, j < t.length → okCode (rd_T25 t j).f0 = true ∧ ¬ badRow (rd_T25 t j) ∧ (0 < j → ¬ badTwo (rd_T25 t ((j : Int) - 1)) (rd_T25 t j)) := by
  intro t
  induction t with
  | nil => intro p _ j hj; simp at hj
  | cons x xs ih =>
    intro p h j hj
    obtain ⟨h1, h2, h3, h4⟩ := h
    cases j with
    | zero => exact ⟨h1, h2, fun h => absurd h (by omega)⟩
    | succ j =>
      have e : rd_T25 (x :: xs) ((j + 1 : Nat) : Int) = rd_T25 xs j := by simp [rd_T25, List.getD]
      rw [e]
      obtain ⟨a, b, c⟩ := ih (some x) h4 j (by simpa using hj)
      refine ⟨a, b, fun _ => ?_⟩
      have e2 : ((j + 1 : Nat) : Int) - 1 = (j : Int) := by omega
      rw [e2]
      cases j with
      | zero =>
        cases xs with
        | nil => simp at hj
        | cons y ys => exact h4.2.2.1 x rfl
      | succ j =>
        have e3 : rd_T25 (x :: xs) ((j + 1 : Nat) : Int) = rd_T25 xs (((j + 1 : Nat) : Int) - 1) := by
          have : ((j + 1 : Nat) : Int) - 1 = (j : Int) := by omega
          rw [this]
          simp [rd_T25, List.getD]
        rw [e3]
        exact c (by omega)
theorem scan_all {t : List S25} {n : Nat} : ∀ {i : Int}, (∀ j : Int, i ≤ j → j < i + n → rowErr t j = 0) → scanN t n i = 0 := by
  induction n with
  | zero => intro i _; rfl
  | succ n ih =>
    intro i h
    rw [scan_ok (h i (by omega) (by omega))]
    exact ih (fun j h1 h2 => h j (by omega) (by omega))
theorem tab_chain {t : List S25} (hl : t.length ≤ 1000) (h : chain none t) : tabErr t = 0 := by
  unfold tabErr
  rw [if_neg (by omega)]
  refine scan_all fun j h1 h2 => ?_
  obtain ⟨i, rfl⟩ := Int.eq_ofNat_of_zero_le h1
  obtain ⟨a, b, c⟩ := chain_at t none h i (by omega)
  by_cases h0 : (i : Int) = 0
  · exact row0 a b h0
  · exact row00 a b h0 (c (by omega))
theorem chain_append : ∀ (a b : List S25) (p : Option S25), chain p a → (∀ p', (p' = p ∨ ∃ q ∈ a, p' = some q) → chain p' b) → chain p (a ++ b) := by
  intro a
  induction a with
  | nil => intro b p _ h; exact h p (.inl rfl)
  | cons x xs ih =>
    intro b p h hb
    obtain ⟨h1, h2, h3, h4⟩ := h
    refine ⟨h1, h2, h3, ih b (some x) h4 fun p' hp' => hb p' ?_⟩
    rcases hp' with rfl | ⟨q, hq, rfl⟩
    · exact .inr ⟨x, by simp, rfl⟩
    · exact .inr ⟨q, by simp [hq], rfl⟩
theorem src_rng (l : List Int) {m : Int} (hm : 0 < m) : 0 ≤ (srcNext l m).1 ∧ (srcNext l m).1 < m := by
  cases l with
  | nil => exact ⟨Int.le_refl _, hm⟩
  | cons x t => exact ⟨Int.emod_nonneg _ (by omega), Int.emod_lt_of_pos _ hm⟩
theorem tabRow_chain (cur : ByteArray) (hcur : okCode cur = true) (n : Nat) : ∀ (day : Int) (l : List Int) (p : Option S25), 0 ≤ day → day + 20 * n ≤ 36524 → (∀ q, p = some q → Op.bytesLess cur.toList q.f0.toList = false ∧ (cur.toList = q.f0.toList → q.f1 < day)) → chain p (tabRow cur n day l).1 := by
  induction n with
  | zero => intro day l p _ _ _; trivial
  | succ n ih =>
    intro day l p h0 h1 hp
    simp only [tabRow]
    have r1 := src_rng l (show (0 : Int) < 1000000000 by decide)
    have r2 := src_rng (srcNext l 1000000000).2 (show (0 : Int) < 20 by decide)
    refine ⟨hcur, ?_, ?_, ih _ _ _ (by omega) (by omega) ?_⟩
    · unfold badRow; simp only []; omega
    · intro q hq
      obtain ⟨a, b⟩ := hp q hq
      unfold badTwo
      simp only [a]
      intro h
      rcases h with h | ⟨h, h'⟩
      · exact absurd h (by decide)
      · have := b h; omega
    · intro q hq
      cases hq
      refine ⟨?_, fun _ => by simp only []; omega⟩
      rcases less_tri cur.toList cur.toList with h | h | h
      · exact absurd rfl h.2.1
      · exact h.2.1
      · exact absurd rfl h.2.1
theorem tabRow_mem (cur : ByteArray) (n : Nat) : ∀ (day : Int) (l : List Int), 0 ≤ day → (tabRow cur n day l).1.length = n ∧ ∀ q ∈ (tabRow cur n day l).1, q.f0 = cur ∧ 0 ≤ q.f1 ∧ q.f1 ≤ day + 20 * n := by
  induction n with
  | zero => intro day l _; exact ⟨rfl, fun q hq => absurd hq (by simp [tabRow])⟩
  | succ n ih =>
    intro day l h0
    simp only [tabRow]
    have r2 := src_rng (srcNext l 1000000000).2 (show (0 : Int) < 20 by decide)
    obtain ⟨a, b⟩ := ih (day + 1 + (srcNext (srcNext l 1000000000).2 20).1) (srcNext (srcNext l 1000000000).2 20).2 (by omega)
    refine ⟨by simp [a], fun q hq => ?_⟩
    rcases List.mem_cons.mp hq with rfl | hq
    · exact ⟨rfl, h0, by simp only []; omega⟩
    · obtain ⟨c, d, e⟩ := b q hq
      exact ⟨c, d, by omega⟩
theorem tabAll_chain : ∀ (cs : List ByteArray) (l : List Int) (p : Option S25), (∀ c ∈ cs, okCode c = true) → cs.Pairwise (fun a b => Op.bytesLess b.toList a.toList = false ∧ b.toList ≠ a.toList) → (∀ q, p = some q → ∀ c ∈ cs, Op.bytesLess c.toList q.f0.toList = false ∧ c.toList ≠ q.f0.toList) → chain p (tabAll cs l) := by
  intro cs
  induction cs with
  | nil => intro l p _ _ _; trivial
  | cons c cs ih =>
    intro l p h1 h2 h3
    simp only [tabAll]
    have r1 := src_rng l (show (0 : Int) < 20 by decide)
    have r2 := src_rng (srcNext l 20).2 (show (0 : Int) < 4 by decide)
    rw [List.pairwise_cons] at h2
    refine chain_append _ _ p (tabRow_chain c (h1 c (by simp)) _ _ _ _ r1.1 (by omega) fun q hq => ?_) ?_
    · obtain ⟨a, b⟩ := h3 q hq c (by simp)
      exact ⟨a, fun e => absurd e b⟩
    · intro p' hp'
      refine ih _ p' (fun x hx => h1 x (by simp [hx])) h2.2 fun q hq x hx => ?_
      rcases hp' with rfl | ⟨q', hq', rfl⟩
      · exact h3 q hq x (by simp [hx])
      · cases hq
        obtain ⟨e, _⟩ := (tabRow_mem c _ _ _ r1.1).2 q hq'
        rw [e]
        exact h2.1 x hx
theorem tabAll_mem : ∀ (cs : List ByteArray) (l : List Int), (tabAll cs l).length ≤ 3 * cs.length ∧ ∀ q ∈ tabAll cs l, q.f0 ∈ cs ∧ 0 ≤ q.f1 ∧ q.f1 < 100 := by
  intro cs
  induction cs with
  | nil => intro l; exact ⟨Nat.le_refl _, fun q hq => absurd hq (by simp [tabAll])⟩
  | cons c cs ih =>
    intro l
    simp only [tabAll]
    have r1 := src_rng l (show (0 : Int) < 20 by decide)
    have r2 := src_rng (srcNext l 20).2 (show (0 : Int) < 4 by decide)
    obtain ⟨a, b⟩ := tabRow_mem c (srcNext (srcNext l 20).2 4).1.toNat (srcNext l 20).1 (srcNext (srcNext l 20).2 4).2 r1.1
    obtain ⟨d, e⟩ := ih (tabRow c (srcNext (srcNext l 20).2 4).1.toNat (srcNext l 20).1 (srcNext (srcNext l 20).2 4).2).2
    refine ⟨by rw [List.length_append, a, List.length_cons]; omega, fun q hq => ?_⟩
    rcases List.mem_append.mp hq with hq | hq
    · obtain ⟨x, y, z⟩ := b q hq
      exact ⟨by rw [x]; simp, y, by omega⟩
    · obtain ⟨x, y, z⟩ := e q hq
      exact ⟨by simp [x], y, z⟩
theorem curs_ok : (∀ c ∈ curs, okCode c = true) ∧ curs.Pairwise (fun a b => Op.bytesLess b.toList a.toList = false ∧ b.toList ≠ a.toList) := by
  constructor
  · decide +kernel
  · decide +kernel
/- what is known of a made table -/
structure Made (t : List S25) : Prop where
  ok : chain none t
  len : t.length ≤ 9
  mem : ∀ q ∈ t, q.f0 ∈ curs ∧ 0 ≤ q.f1 ∧ q.f1 < 100
theorem table_is {l : List Int} (h : ∀ x ∈ l, (Lit.int .i64 x).wf = true) : ∃ t, customsmade_Table.f l = some t ∧ Made t := by
  refine ⟨_, if_pos ?_, tabAll_chain curs _ none curs_ok.1 curs_ok.2 (fun q hq => by cases hq), (tabAll_mem curs _).1, (tabAll_mem curs _).2⟩
  refine List.all_eq_true.mpr fun x hx => ?_
  have := i64_of_wf (h x hx)
  unfold rng64
  simp only [I64] at this
  simp only [Bool.and_eq_true, decide_eq_true_eq]
  omega
theorem Made.err {t : List S25} (h : Made t) : tabErr t = 0 := tab_chain (by have := h.len; omega) h.ok
theorem curs_size : ∀ c ∈ curs, c.size = 3 := by decide
theorem Made.size {t : List S25} (h : Made t) (i : Int) (h0 : 0 ≤ i) (h1 : i < t.length) : (rd_T25 t i).f0.size ≤ 9223372036854775807 := by
  obtain ⟨j, rfl⟩ := Int.eq_ofNat_of_zero_le h0
  have hm : rd_T25 t (j : Int) ∈ t := by
    have : j < t.length := by omega
    simp [rd_T25, List.getD, this]
  rw [curs_size _ (h.mem _ hm).1]
  decide
/- Within and Currency of package customsmade -/
theorem within_ev {a b : Int} (ha : I64 a) (hb : 0 < b) (hb1 : b ≤ 4611686018427387904) : customsmade_Within.f a b = some (a % b) := within_is a b ha hb hb1
end Go.Proofs.Ytpmdlhncfggjkaa.PX
end
section
namespace Go.Proofs.Ytpmdlhncfggjkaa.Pure
open Go.RowKit Go.Proofs.Ytpmdlhncfggjkaa.PX Go.Proofs.YtpmdlhncfggjkaaW.PrintWords Go.Proofs.YtpmdlhncfggjkaaW.PrintLast Go.Proofs.YtpmdlhncfggjkaaW.PrintMore
set_option linter.unusedVariables false
set_option linter.unusedSimpArgs false

theorem rd_size {t : List S25} (h : ∀ x ∈ t, x.f0.size ≤ 9223372036854775807) (i : Int) (h0 : 0 ≤ i) (h1 : i < t.length) : (rd_T25 t i).f0.size ≤ 9223372036854775807 := by
  have hi : i.toNat < t.length := by omega
  have e : rd_T25 t i = t[i.toNat] := by
    show t.getD i.toNat _ = _
    simp [List.getD_eq_getElem?_getD, hi]
  rw [e]
  exact h _ (List.getElem_mem hi)
theorem mem_size {t : List S25} (h : ∀ i : Int, 0 ≤ i → i < t.length → (rd_T25 t i).f0.size ≤ 9223372036854775807) : ∀ x ∈ t, x.f0.size ≤ 9223372036854775807 := by
  intro x hx
  obtain ⟨n, hn, rfl⟩ := List.mem_iff_getElem.mp hx
  have := h n (by omega) (by omega)
  have e : rd_T25 t n = t[n] := by
    show t.getD n _ = _
    simp [List.getD_eq_getElem?_getD, hn]
  rw [e] at this
  exact this
theorem CurrencyValidate (l0 : List S25) (l1 : List Int) (a2 : Int) (a3 : ByteArray) (a4 a5 : Int) (hz : ∀ x ∈ l0, x.f0.size ≤ 9223372036854775807) (hl : ∀ x ∈ l1, (Lit.int .i64 x).wf = true) (h2 : (Lit.int .i64 a2).wf = true) (h3 : a3.size ≤ 9223372036854775807) : ∃ k, customslaw05_CurrencyValidate.f k l0 l1 a2 a3 a4 a5 = some true := by
  refine Ev.rounds ?_
  obtain ⟨t, ht, hm⟩ := table_is hl
  have both : ∀ (u : List S25) (g : Nat → Option Bool), (∀ x ∈ u, x.f0.size ≤ 9223372036854775807) → Ev g true → Ev (fun k => (currency_Validate.f k u).bind fun a => (customsref04_Table.f k u).bind fun b => if a = b then g k else some false) true := by
    intro u g hu hg
    exact Ev.bind (validate_ev u) (Ev.bind (refTable_ev u (fun i h0 h1 => rd_size hu i h0 h1)) (Ev.pos rfl hg))
  have hms := mem_size hm.size
  have aw : Ev (fun k => (customslaw05_awake.f k).bind fun c => some c) true := Ev.bind awake_ev (Ev.now _)
  have tail : Ev (fun k => (currency_Validate.f k t).bind fun z => if z = 0 then (if (t.length : Int) > 0 then ((customsmade_Within.f a2 (t.length : Int)).bind fun i => if 0 ≤ i then (if i < (t.length : Int) then ((some (t.set (i : Int).toNat (⟨a3, a4, a5⟩ : S25) : List S25)).bind fun y => (currency_Validate.f k y).bind fun a => (customsref04_Table.f k y).bind fun b => if a = b then ((customslaw05_awake.f k).bind fun c => some c) else some false) else none) else none) else ((currency_Validate.f k t).bind fun a => (customsref04_Table.f k t).bind fun b => if a = b then ((customslaw05_awake.f k).bind fun c => some c) else some false)) else some false) true := by
    refine Ev.bind (validate_ev t) ?_
    rw [hm.err]
    refine Ev.pos rfl (Ev.ite (fun c => ?_) (fun c => both t _ hms aw))
    rw [within_ev (i64_of_wf h2) (by omega) (by have := hm.len; omega)]
    simp only [Option.bind_some]
    have r0 := Int.emod_nonneg a2 (show (t.length : Int) ≠ 0 by omega)
    have r1 := Int.emod_lt_of_pos a2 (show 0 < (t.length : Int) by omega)
    refine Ev.pos r0 (Ev.pos r1 (both _ _ (fun x hx => ?_) aw))
    rcases List.mem_or_eq_of_mem_set hx with h | h
    · exact hms x h
    · rw [h]; exact h3
  unfold customslaw05_CurrencyValidate.f
  rw [ht]
  refine Ev.ite (fun c => Ev.pos (by omega) ?_) (fun c => ?_)
  · simp only [Option.bind_some]
    exact both _ _ (fun x hx => hz x (List.mem_of_mem_take hx)) tail
  · simp only [Option.bind_some]
    exact both _ _ hz tail
end Go.Proofs.Ytpmdlhncfggjkaa.Pure
end
section
namespace Go.Proofs.Ytpmdlhncfggjkaa.PX
open Go.RowKit Go.Proofs.YtpmdlhncfggjkaaW.PrintWords Go.ChangeShapes Go.WideShapes Go.Deep
set_option linter.unusedVariables false
set_option linter.unusedSimpArgs false

theorem open_row {H : Type} {enc : TypeId × Value → H} {P : Program} {w : World} {base : Nat} {spare : Nat → Bool} {held : Bool} {α : Type} (d : Kd α) (Good : α → Prop) {t e : TypeId} (ht : P.underlying t = some (.slice e)) (hC : P.cellsOf e = d.sz)
    (hopen : ∀ fuel cs y, DataW.trod enc P w base spare held fuel e cs = some y → ∃ x, Good x ∧ d.K w x cs) {a : Option Addr} {len cap : Nat} {dd : DataW H} {ps : List MemPlace} (h : DataW.Trod enc P w base spare held t (.slice a len cap) dd ps) :
    ∃ xs : List α, xs.length = len ∧ len ≤ cap ∧ d.C w a len xs ∧ (∀ x ∈ xs, Good x) ∧ (len = 0 ∨ ∃ elems rest, dd = .slice elems rest ∧ elems.length = len) := by
  obtain ⟨fuel, hf⟩ := h
  rcases open_slice ht hf with ⟨hcs, _⟩ | ⟨x, l, c, m, n, D, Pl, hcs, _, hl, hm, hmm, hx, hi⟩
  · simp [Value.cells] at hcs
    obtain ⟨rfl, rfl, rfl⟩ := hcs
    exact ⟨[], rfl, Nat.le_refl _, ⟨rfl, Nat.zero_le _, fun h => absurd h (by omega)⟩, fun x hx => absurd hx (by simp), .inl rfl⟩
  · simp [Value.cells] at hcs
    obtain ⟨rfl, rfl, rfl⟩ := hcs
    have hml : len ≤ m := by rw [hmm]; split <;> omega
    have key : ∀ i : Fin len, ∃ y : α, Good y ∧ ∃ cs : List Value, cs.length = d.sz ∧ d.K w y cs ∧ ∀ j u, cs[j]? = some u → w.cell? (x.add (i.1 * d.sz + j)) = some u := by
      intro i
      obtain ⟨cs, hcs, htr⟩ := hi i.1 (by omega)
      obtain ⟨y, hg, hk⟩ := hopen _ _ _ htr
      obtain ⟨_, hcl, hat⟩ := World.cells?_some hcs
      rw [hC] at hcl hat
      refine ⟨y, hg, cs, hcl, hk, fun j u hj => ?_⟩
      have hjl : j < cs.length := (List.getElem?_eq_some_iff.1 hj).1
      have := hat j (by omega)
      rw [← Go.Deep.add_add, this]
      exact hj
    obtain ⟨f, hf⟩ := Classical.axiomOfChoice key
    refine ⟨List.ofFn f, List.length_ofFn, hl, ⟨List.length_ofFn, Nat.le_trans hl hm, fun _ => ⟨x, rfl, fun j p hj => ?_⟩⟩, fun y hy => ?_, .inr ⟨_, _, congrArg Prod.fst hx, by simp⟩⟩
    · rw [List.getElem?_ofFn] at hj
      split at hj
      · rename_i hjl
        cases hj
        obtain ⟨_, cs, h1, h2, h3⟩ := hf ⟨j, hjl⟩
        exact ⟨cs, h1, h2, h3⟩
      · cases hj
    · rw [List.mem_ofFn] at hy
      obtain ⟨i, rfl⟩ := hy
      exact (hf i).1
end Go.Proofs.Ytpmdlhncfggjkaa.PX
end
section
namespace Go.Proofs.Ytpmdlhncfggjkaa.PX
open Go.RowKit Go.Proofs.YtpmdlhncfggjkaaW.PrintWords Go.ChangeShapes Go.WideShapes Go.Deep
set_option linter.unusedVariables false
set_option linter.unusedSimpArgs false

/- what the type says of an exchange -/
def GoodX (x : S25) : Prop := x.f0.size ≤ maxLen ∧ (Lit.int .i64 x.f1).wf = true ∧ (Lit.int .i64 x.f2).wf = true
theorem open_exch0 {H : Type} {enc : TypeId × Value → H} {w : World} {base : Nat} {spare : Nat → Bool} {held : Bool} (fuel : Nat) (cs : List Value) (y : DataW H × List MemPlace) (h : DataW.trod enc Try.prog w base spare held fuel 25 cs = some y) : ∃ x : S25, cs = [.string x.f0, .int .i64 x.f1, .int .i64 x.f2] ∧ GoodX x := by
  obtain ⟨xs, n, _, _, hlen, hxl, hg⟩ := DataW.trod_struct Try.underlying25 h
  have hc : Try.prog.cellsOf 25 = 3 := by kernel_rfl
  rw [hc] at hlen
  match cs, hlen with
  | [c0, c1, c2], _ =>
    match xs, hxl with
    | [y0, y1, y2], _ =>
      have hs : Try.prog.cellsOf 9 = 1 := by kernel_rfl
      have hi : Try.prog.cellsOf 3 = 1 := by kernel_rfl
      have g0 := hg 0 _ rfl
      have g1 := hg 1 _ rfl
      have g2 := hg 2 _ rfl
      simp only [hs, hi, List.drop_zero, List.drop_succ_cons, List.take_succ_cons, List.take_zero, List.getElem?_cons_zero, List.getElem?_cons_succ] at g0 g1 g2
      obtain ⟨s, e0, _, hz⟩ := DataW.trod_string Try.underlying9 g0
      obtain ⟨a, e1, _, hw1⟩ := DataW.trod_int Try.underlying3 g1
      obtain ⟨b, e2, _, hw2⟩ := DataW.trod_int Try.underlying3 g2
      cases e0; cases e1; cases e2
      exact ⟨⟨s, a, b⟩, rfl, ⟨hz, hw1, hw2⟩⟩
theorem open_exch {H : Type} {enc : TypeId × Value → H} {w : World} {base : Nat} {spare : Nat → Bool} {held : Bool} (fuel : Nat) (cs : List Value) (y : DataW H × List MemPlace) (h : DataW.trod enc Try.prog w base spare held fuel 25 cs = some y) : ∃ x : S25, GoodX x ∧ k25.K w x cs := by
  obtain ⟨x, rfl, g⟩ := open_exch0 fuel cs y h
  exact ⟨x, g, k25_mk w x⟩
theorem open_exchV {H : Type} {enc : TypeId × Value → H} {w : World} {base : Nat} {spare : Nat → Bool} {held : Bool} {cs : Array Value} {d : DataW H} {ps : List MemPlace} (sz : cs.size = Try.prog.cellsOf 25) (h : DataW.Trod enc Try.prog w base spare held 25 (.agg cs) d ps) : ∃ x : S25, cs = #[.string x.f0, .int .i64 x.f1, .int .i64 x.f2] ∧ GoodX x := by
  obtain ⟨fuel, hf⟩ := h
  obtain ⟨x, e, g⟩ := open_exch0 fuel _ _ hf
  refine ⟨x, ?_, g⟩
  have e2 : cs.toList = [.string x.f0, .int .i64 x.f1, .int .i64 x.f2] := e
  rw [← e2]
def GoodI (x : Int) : Prop := (Lit.int .i64 x).wf = true
theorem open_kint {H : Type} {enc : TypeId × Value → H} {w : World} {base : Nat} {spare : Nat → Bool} {held : Bool} (fuel : Nat) (cs : List Value) (y : DataW H × List MemPlace) (h : DataW.trod enc Try.prog w base spare held fuel 3 cs = some y) : ∃ x : Int, GoodI x ∧ (Kd.int .i64).K w x cs := by
  obtain ⟨a, e, _, hw⟩ := DataW.trod_int Try.underlying3 h
  exact ⟨a, hw, e⟩
end Go.Proofs.Ytpmdlhncfggjkaa.PX
end
