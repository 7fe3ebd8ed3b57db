/-
ModelKinds: what the functions answer.
Conditions: none.
-/
import Derived.Test.YtoplphfgbfcagaaKb
set_option linter.unusedVariables false
set_option linter.unusedSimpArgs false
set_option maxRecDepth 100000
namespace Go.Proofs.Ytoplphfgbfcagaa.Ev
open Go

theorem wrap_ok {x : Int} (h1 : -9223372036854775808 ≤ x) (h2 : x ≤ 9223372036854775807) : IntKind.i64.wrap x = x := by rw [IntKind.wrap_i64]; omega

/-! ### contracts for handlers -/
def HandOk (P : Program) (g : Nat) (h : Hand) : Prop := ∀ args κ r, h args κ = some r → ∃ av, κ av = some r ∧ CallSpec P g args av
theorem calls_nil {P : Program} {t k x f} : CallsOk P ⟨t, [], k, x, f⟩ := fun g h hl => by simp [look] at hl
theorem calls_cons {P : Program} {t k x f g h l} (h1 : HandOk P g h) (h2 : CallsOk P ⟨t, l, k, x, f⟩) : CallsOk P ⟨t, (g, h) :: l, k, x, f⟩ := by
  intro g' h' hl
  simp only [look] at hl
  cases hb : Nat.beq g g' with
  | true =>
    rw [hb] at hl
    simp only [cond_true, Option.some.injEq] at hl
    rw [← Nat.eq_of_beq_eq_true hb, ← hl]
    exact h1
  | false => rw [hb] at hl; exact h2 g' h' hl
theorem calls_any {P : Program} {t l k x f k' x' f'} (h : CallsOk P ⟨t, l, k, x, f⟩) : CallsOk P ⟨t, l, k', x', f'⟩ := h
theorem hand_callH {P : Program} {E : Env} {own : Bool} {fn : Func} {c : Code} {f k : Nat} (hE : EOk P E) (hmix : P.follows .mixedOrders = true) (hf : P.funcs[f]? = some fn) (hname : (fn.name == "runtime.NumGoroutine") = false) (hbody : fn.body = some c) :
    HandOk P f (callH E own fn k) := by
  intro args κ r h
  unfold callH at h
  split at h
  · rename_i av hav
    exact ⟨av, h, callW_ok hE hmix hf hname hbody hav⟩
  · simp at h

theorem tt_ok : chkAll Go.Proofs.Try.prog tt = true := by kernel_rfl
theorem mixed : Go.Proofs.Try.prog.follows .mixedOrders = true := by kernel_rfl

/-! ### the search loops -/
theorem drop_get {α : Type} {xs : List α} {i : Int} {d : α} (h0 : 0 ≤ i) (h1 : i < xs.length) : xs.drop i.toNat = xs.getD i.toNat d :: xs.drop (i + 1).toNat := by
  have hi : i.toNat < xs.length := by omega
  rw [List.drop_eq_getElem_cons hi, List.getD_eq_getElem?_getD, List.getElem?_eq_getElem hi, show (i + 1).toNat = i.toNat + 1 by omega]
  rfl
theorem F14.loop (K : Conts) (xs : List ByteArray) (w : ByteArray) (hl : xs.length ≤ 1000) (hr : ∀ v, K.ret ⟨slots 19 [(4, .v (.int .i64) v)], []⟩ = some (.v (.int .i64) v))
    (he : exitK K 0 ⟨slots 19 [], []⟩ = some (.v (.int .i64) (-1 : Int))) : ∀ (n : Nat) (i : Int), 0 ≤ i → i ≤ xs.length → xs.length - i < n →
      F14.l1_0_1_0 n K xs w (xs.length : Int) i = some (.v (.int .i64) (idx (fun x => strEq w x) (xs.drop i.toNat) i)) := by
  intro n
  induction n with
  | zero => intro i h0 h1 h2; omega
  | succ n ih =>
    intro i h0 h1 h2
    rw [F14.l1_0_1_0_eq]
    by_cases hi : i < xs.length
    · rw [drop_get (d := ByteArray.empty) h0 hi]
      simp only [hi, h0, decide_true, Bool.and_true, cond_true, idx]
      cases hb : strEq w (xs.getD i.toNat ByteArray.empty) with
      | true => exact hr i
      | false =>
        simp only [cond_false]
        rw [wrap_ok (by omega) (by omega)]
        exact ih (i + 1) (by omega) (by omega) (by omega)
    · rw [List.drop_of_length_le (by omega)]
      simp only [hi, decide_false, cond_false, idx]
      exact he
theorem F12.loop (K : Conts) (xs : List (ByteArray × ByteArray)) (w : ByteArray) (hl : xs.length ≤ 1000) (hr : ∀ v, K.ret ⟨slots 19 [(4, .v (.int .i64) v)], []⟩ = some (.v (.int .i64) v))
    (he : exitK K 0 ⟨slots 19 [], []⟩ = some (.v (.int .i64) (-1 : Int))) : ∀ (n : Nat) (i : Int), 0 ≤ i → i ≤ xs.length → xs.length - i < n →
      F12.l1_0_1_0 n K xs w (xs.length : Int) i = some (.v (.int .i64) (idx (fun x => strEq x.1 w) (xs.drop i.toNat) i)) := by
  intro n
  induction n with
  | zero => intro i h0 h1 h2; omega
  | succ n ih =>
    intro i h0 h1 h2
    rw [F12.l1_0_1_0_eq]
    by_cases hi : i < xs.length
    · rw [drop_get (d := (ByteArray.empty, ByteArray.empty)) h0 hi]
      simp only [hi, h0, decide_true, Bool.and_true, cond_true, idx]
      cases hb : strEq (xs.getD i.toNat (ByteArray.empty, ByteArray.empty)).1 w with
      | true => exact hr i
      | false =>
        simp only [cond_false]
        rw [wrap_ok (by omega) (by omega)]
        exact ih (i + 1) (by omega) (by omega) (by omega)
    · rw [List.drop_of_length_le (by omega)]
      simp only [hi, decide_false, cond_false, idx]
      exact he

/-! ### each function -/
theorem F14.sem (xs : List ByteArray) (w : ByteArray) (hl : xs.length ≤ 1000) : callW F14.E false F14.fn 1001 [.v (.sl .str) xs, .v .str w] = some (.v (.int .i64) (indexS xs w)) := by
  rw [F14.start_eq]
  have := F14.loop (F14.kt 1001 [1, 0, 1, 0]) xs w hl (fun v => F14.c0 1001 v) (F14.c1 1001) 1001 0 (by omega) (by omega) (by omega)
  exact this
theorem F12.sem (xs : List (ByteArray × ByteArray)) (w : ByteArray) (hl : xs.length ≤ 1000) : callW F12.E false F12.fn 1001 [.v (.sl (.pair .str .str)) xs, .fn 13 [] [.rp [.v .str w]]] = some (.v (.int .i64) (indexForm xs w)) := by
  rw [F12.start_eq]
  have := F12.loop (F12.kt 1001 [1, 0, 1, 0]) xs w hl (fun v => F12.c0 1001 v) (F12.c1 1001) 1001 0 (by omega) (by omega) (by omega)
  exact this
theorem forms_len : formsL.length = 23 := rfl
theorem F5.sem (k : Int) : callW F5.E false F5.fn 10 [.v (.int .i64) k] = some (.tup [.v .str (wordS k), .v .bool (inS k)]) := by
  rw [F5.start_eq, forms_len]
  unfold wordS inS
  by_cases h1 : k < 1
  · have h2 : ¬ 1 ≤ k := by omega
    simp [h1, h2]
  · have h2 : 1 ≤ k := by omega
    by_cases h3 : k > 23
    · have h4 : ¬ k ≤ 23 := by omega
      simp [h1, h3, h4]
    · have h4 : k ≤ 23 := by omega
      rw [wrap_ok (by omega) (by omega)]
      have h5 : 0 ≤ k - 1 := by omega
      have h6 : k - 1 < 23 := by omega
      simp [h1, h2, h3, h4, h5, h6]
theorem F7.sem (k : Int) : callW F7.E false F7.fn 10 [.v (.int .i64) k] = some (.v .str (shapeS k)) := by
  rw [F7.start_eq, forms_len]
  unfold shapeS
  cases h : inS k with
  | false => simp
  | true =>
    unfold inS at h
    simp only [Bool.and_eq_true, decide_eq_true_eq] at h
    rw [wrap_ok (by omega) (by omega)]
    have h5 : 0 ≤ k - 1 := by omega
    have h6 : k - 1 < 23 := by omega
    simp [h5, h6, h.1]
theorem idx_range {α : Type} (p : α → Bool) : ∀ (xs : List α) (i : Int), 0 ≤ i → -1 ≤ idx p xs i ∧ idx p xs i < i + xs.length + 1
  | [], i, h => by simp only [idx, List.length_nil]; omega
  | x :: xs, i, h => by
    simp only [idx, List.length_cons]
    have := idx_range p xs (i + 1) (by omega)
    cases p x <;> simp only [cond_true, cond_false] <;> omega
theorem F6.sem (w : ByteArray) : callW F6.E false F6.fn 10 [.v .str w] = some (.tup [.v (.int .i64) (kindS w), .v .bool (isS w)]) := by
  rw [F6.start_eq]
  have h := idx_range (fun x : ByteArray × ByteArray => strEq x.1 w) formsL 0 (by omega)
  rw [forms_len] at h
  have : IntKind.i64.wrap (indexForm formsL w + 1) = kindS w := wrap_ok (by unfold indexForm; omega) (by unfold indexForm; omega)
  rw [this]
  rfl
theorem F9.sem (xs : List ByteArray) (w : ByteArray) (hl : xs.length ≤ 1000) : callW F9.E false F9.fn 10 [.v (.sl .str) xs, .v .str w] = some (.v .bool (containsS xs w)) := by
  rw [F9.start_eq]
  have : Nat.ble xs.length 1000 = true := (by rw [Nat.ble_eq]; exact hl)
  simp only [this, cond_true]
  rfl

theorem u8sEq_comm : ∀ (a b : List UInt8), u8sEq a b = u8sEq b a
  | [], [] => rfl
  | a :: l, b :: r => by
    simp only [u8sEq, u8sEq_comm l r]
    congr 1
    rw [Bool.eq_iff_iff, Nat.beq_eq, Nat.beq_eq]
    exact eq_comm
  | [], _ :: _ => rfl
  | _ :: _, [] => rfl
theorem idx_map {α β : Type} (f : α → β) (p : β → Bool) (q : α → Bool) (h : ∀ x, p (f x) = q x) : ∀ (xs : List α) (i : Int), idx p (xs.map f) i = idx q xs i
  | [], _ => rfl
  | x :: xs, i => by simp only [List.map_cons, idx, h, idx_map f p q h xs]
theorem words_forms : wordsL.drop 1 = formsL.map (·.1) := rfl
theorem is_contains (w : ByteArray) : containsS (wordsL.drop 1) w = isS w := by
  unfold containsS isS indexS indexForm
  rw [words_forms, idx_map (fun x : ByteArray × ByteArray => x.1) (fun x => strEq w x) (fun x => strEq x.1 w) fun x => by unfold strEq; exact u8sEq_comm _ _]
theorem kind_none {w : ByteArray} (h : isS w = false) : kindS w = 0 := by
  unfold isS at h
  simp only [decide_eq_false_iff_not] at h
  have := idx_range (fun x : ByteArray × ByteArray => strEq x.1 w) formsL 0 (by omega)
  unfold kindS
  unfold indexForm at *
  omega
theorem F3.rounds (K : Conts) (a : Int) (w : ByteArray) : F3.l1_0_1_0 30 K a w wordsL (wordsL.length : Int) 0 = exitK K 0 ⟨slots 116 [(0, .v (.int .i64) a), (1, .v .str w)], []⟩ := by kernel_rfl
theorem F3.sem (a : Int) (w : ByteArray) : callW F3.E false F3.fn 30 [.v (.int .i64) a, .v .str w] = some (.v .bool true) := by
  rw [F3.start_eq, F3.rounds, F3.c1]
  have h1 : containsS (wordsL.drop 1) w = isS w := is_contains w
  have h2 : isS w = false → kindS w = 0 := kind_none
  have h3 : inS a = false → strEq (wordS a) ⟨#[]⟩ = true ∧ strEq (shapeS a) ⟨#[]⟩ = true := fun h => by
    unfold wordS shapeS
    rw [h]
    exact ⟨rfl, rfl⟩
  have e1 : Nat.ble (wordsL.drop 1).length 1000 = true := rfl
  have e2 : decide ((1 : Int) ≤ wordsL.length) = true := rfl
  rw [h1, e1]
  rw [e2]
  have hin : inS a = (decide (a ≥ 1) && decide (a ≤ 23)) := rfl
  generalize inS a = b at h3 hin
  generalize isS w = c at h2
  cases hx : decide (a ≥ 1) <;> cases hy : decide (a ≤ 23) <;> rw [hx, hy] at hin <;> subst hin <;> cases c <;> simp_all
end Go.Proofs.Ytoplphfgbfcagaa.Ev
