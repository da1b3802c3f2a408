
/- Bits of bytes, and a burst of them turned: the sum tells it. Plain, no program in sight. -/
import Derived.Test.YtkpagiokjihmhaaCrcB
set_option linter.unusedVariables false
namespace Go.Kn
open Go Go.RowKit
/-- bit j of bytes -/
def bitAt (bs : List UInt8) (j : Nat) : Bool := (bs.getD (j / 8) 0).toNat.testBit (j % 8)
/-- the register after n bits -/
def brun (f : Nat → Bool) (x : Nat) : Nat → Nat
  | 0 => x
  | n + 1 => cstep (brun f x n) (f n).toNat
theorem xor_mod_two (a b : Nat) : (a ^^^ b) % 2 = (a + b) % 2 := by
  have h := @Nat.xor_mod_two_eq_one a b
  omega
theorem cstep_mod (x d : Nat) : cstep x d = cstep x (d % 2) := by
  unfold cstep
  have h : (x ^^^ d) % 2 = (x ^^^ (d % 2)) % 2 := by rw [xor_mod_two, xor_mod_two]; omega
  rw [h]
theorem testBit_nat (c i : Nat) : (c.testBit i).toNat = c / 2 ^ i % 2 := by
  rw [Nat.testBit_eq_decide_div_mod_eq]
  by_cases h : c / 2 ^ i % 2 = 1
  · simp [h]
  · have : c / 2 ^ i % 2 = 0 := by omega
    simp [this]
theorem brun_congr {f g : Nat → Bool} {x : Nat} : ∀ {n : Nat}, (∀ j, j < n → f j = g j) → brun f x n = brun g x n
  | 0, _ => rfl
  | n + 1, h => by
    have ih := brun_congr (f := f) (g := g) (x := x) (n := n) (fun j hj => h j (by omega))
    simp only [brun, ih, h n (by omega)]
theorem brun_add (f : Nat → Bool) (x m : Nat) : ∀ n : Nat, brun f x (m + n) = brun (fun j => f (m + j)) (brun f x m) n
  | 0 => rfl
  | n + 1 => by
    have ih := brun_add f x m n
    rw [← Nat.add_assoc]
    simp only [brun, ih]
theorem brun_lt {f : Nat → Bool} {x : Nat} (hx : x < 4294967296) : ∀ n, brun f x n < 4294967296
  | 0 => hx
  | n + 1 => cstep_lt (brun_lt hx n) _
theorem cbits_brun (c x : Nat) : ∀ i, cbits c x i = brun (fun j => c.testBit j) x i
  | 0 => rfl
  | i + 1 => by
    simp only [cbits, brun, cbits_brun c x i, testBit_nat]
    exact cstep_mod _ _
theorem bitAt_cons_succ (b : UInt8) (bs : List UInt8) (j : Nat) : bitAt (b :: bs) (8 + j) = bitAt bs j := by
  unfold bitAt
  have h1 : (8 + j) / 8 = j / 8 + 1 := by omega
  have h2 : (8 + j) % 8 = j % 8 := by omega
  rw [h1, h2, List.getD_cons_succ]
theorem bitAt_cons_zero (b : UInt8) (bs : List UInt8) (j : Nat) (h : j < 8) : bitAt (b :: bs) j = b.toNat.testBit j := by
  unfold bitAt
  have h1 : j / 8 = 0 := by omega
  have h2 : j % 8 = j := by omega
  rw [h1, h2, List.getD_cons_zero]
theorem cadd_brun : ∀ (bs : List UInt8) (x : Nat), cadd x bs = brun (bitAt bs) x (8 * bs.length)
  | [], x => rfl
  | b :: bs, x => by
    have h1 : cadd x (b :: bs) = cadd (cbits b.toNat x 8) bs := rfl
    have h2 : 8 * (b :: bs).length = 8 + 8 * bs.length := by simp; omega
    rw [h1, cadd_brun bs, h2, brun_add, cbits_brun]
    have e1 : brun (fun j => b.toNat.testBit j) x 8 = brun (bitAt (b :: bs)) x 8 := brun_congr fun j hj => (bitAt_cons_zero b bs j hj).symm
    rw [e1]
    exact brun_congr fun j _ => (bitAt_cons_succ b bs j).symm
theorem cstep_inj {x y d : Nat} (hx : x < 4294967296) (hy : y < 4294967296) (h : cstep x d = cstep y d) : x = y := by
  unfold cstep at h
  have e1 : (x ^^^ d) % 2 = (x + d) % 2 := xor_mod_two _ _
  have e2 : (y ^^^ d) % 2 = (y + d) % 2 := xor_mod_two _ _
  have key : ∀ u v : Nat, u < 4294967296 → v < 4294967296 → (u / 2) ^^^ 2197175160 = v / 2 → False := by
    intro u v hu hv he
    have t := congrArg (fun z => z.testBit 31) he
    have b1 : (u / 2).testBit 31 = false := Nat.testBit_lt_two_pow (by omega)
    have b2 : (v / 2).testBit 31 = false := Nat.testBit_lt_two_pow (by omega)
    have b3 : (2197175160 : Nat).testBit 31 = true := by decide
    simp only [Nat.testBit_xor, b1, b2, b3] at t
    cases t
  by_cases h1 : (x ^^^ d) % 2 = 1
  · by_cases h2 : (y ^^^ d) % 2 = 1
    · rw [if_pos h1, if_pos h2] at h
      have h3 : x / 2 = y / 2 := by
        have := congrArg (fun z => z ^^^ 2197175160) h
        simpa [Nat.xor_assoc] using this
      omega
    · rw [if_pos h1, if_neg h2] at h
      exact absurd h (fun h => key x y hx hy h)
  · by_cases h2 : (y ^^^ d) % 2 = 1
    · rw [if_neg h1, if_pos h2] at h
      exact absurd h.symm (fun h => key y x hy hx h)
    · rw [if_neg h1, if_neg h2] at h
      omega
theorem brun_inj {f : Nat → Bool} {x y : Nat} (hx : x < 4294967296) (hy : y < 4294967296) : ∀ n, brun f x n = brun f y n → x = y
  | 0, h => h
  | n + 1, h => brun_inj hx hy n (cstep_inj (brun_lt hx n) (brun_lt hy n) h)
/-- m bits as a number -/
def numb (f : Nat → Bool) : Nat → Nat
  | 0 => 0
  | m + 1 => (f 0).toNat + 2 * numb (fun j => f (j + 1)) m
theorem numb_lt : ∀ (m : Nat) (f : Nat → Bool), numb f m < 2 ^ m
  | 0, f => by simp [numb]
  | m + 1, f => by
    have ih := numb_lt m (fun j => f (j + 1))
    have h0 : (f 0).toNat ≤ 1 := Bool.toNat_le _
    rw [Nat.pow_succ]
    simp only [numb]
    omega
theorem numb_inj : ∀ (m : Nat) (f g : Nat → Bool), numb f m = numb g m → ∀ j, j < m → f j = g j
  | 0, f, g, _, j, hj => by omega
  | m + 1, f, g, h, j, hj => by
    simp only [numb] at h
    have h0 : (f 0).toNat ≤ 1 := Bool.toNat_le _
    have h1 : (g 0).toNat ≤ 1 := Bool.toNat_le _
    have h2 : (f 0).toNat = (g 0).toNat := by omega
    rcases j with _ | j
    · cases hf : f 0 <;> cases hg : g 0 <;> simp_all
    · exact numb_inj m (fun j => f (j + 1)) (fun j => g (j + 1)) (by omega) j (by omega)
theorem xor_half (a b : Nat) : (a ^^^ b) / 2 = a / 2 ^^^ b / 2 := by
  have := Nat.shiftRight_xor_distrib (a := a) (b := b) (i := 1)
  simpa [Nat.shiftRight_eq_div_pow] using this
theorem xor_swap (a b c : Nat) : (a ^^^ b) ^^^ c = (a ^^^ c) ^^^ b := by rw [Nat.xor_assoc, Nat.xor_comm b c, ← Nat.xor_assoc]
theorem brun_numb : ∀ (m : Nat) (f : Nat → Bool) (x : Nat), brun f x m = brun (fun _ => false) (x ^^^ numb f m) m
  | 0, f, x => by simp [brun, numb]
  | m + 1, f, x => by
    rw [Nat.add_comm m 1, brun_add, brun_add]
    have h1 : brun f x 1 = cstep x (f 0).toNat := rfl
    have h2 : ∀ z, brun (fun _ => false) z 1 = cstep z 0 := fun _ => rfl
    have ih := brun_numb m (fun j => f (1 + j)) (cstep x (f 0).toNat)
    have hn : numb f (1 + m) = (f 0).toNat + 2 * numb (fun j => f (1 + j)) m := by
      rw [Nat.add_comm 1 m]
      simp only [numb, Nat.add_comm]
    rw [h1, h2, ih, hn]
    generalize numb (fun j => f (1 + j)) m = n
    have h0 : (f 0).toNat ≤ 1 := Bool.toNat_le _
    generalize (f 0).toNat = b at *
    congr 1
    have e1 : (x ^^^ (b + 2 * n)) % 2 = (x + b) % 2 := by rw [xor_mod_two]; omega
    have e2 : (x ^^^ (b + 2 * n)) / 2 = x / 2 ^^^ n := by rw [xor_half]; congr 1; omega
    have e3 : (x ^^^ b) % 2 = (x + b) % 2 := xor_mod_two _ _
    unfold cstep
    rw [Nat.xor_zero, e1, e2, e3]
    split
    · exact xor_swap _ _ _
    · rfl
/-- a burst of at most 32 bits in a row is told by the register -/
theorem burst (f g : Nat → Bool) (a m N x : Nat) (hx : x < 4294967296) (hm : m ≤ 32) (hN : a + m ≤ N) (hout : ∀ j, j < N → (j < a ∨ a + m ≤ j) → f j = g j) (hd : ∃ j, j < m ∧ f (a + j) ≠ g (a + j)) :
    brun f x N ≠ brun g x N := by
  intro he
  obtain ⟨r, rfl⟩ : ∃ r, N = a + (m + r) := ⟨N - (a + m), by omega⟩
  rw [brun_add f, brun_add g, brun_add _ _ m r, brun_add _ _ m r] at he
  have h1 : brun f x a = brun g x a := brun_congr fun j hj => hout j (by omega) (.inl hj)
  rw [h1] at he
  have hy : brun g x a < 4294967296 := brun_lt hx a
  generalize brun g x a = y at *
  have h2 : ∀ z, brun (fun j => f (a + (m + j))) z r = brun (fun j => g (a + (m + j))) z r := fun z => brun_congr fun j hj => hout _ (by omega) (.inr (by omega))
  rw [h2] at he
  have h3 := brun_inj (brun_lt hy m) (brun_lt hy m) r he
  rw [brun_numb m, brun_numb m (fun j => g (a + j))] at h3
  have b : (2 : Nat) ^ m ≤ 2 ^ 32 := Nat.pow_le_pow_right (by omega) hm
  have lf := numb_lt m (fun j => f (a + j))
  have lg := numb_lt m (fun j => g (a + j))
  have h4 := brun_inj (Nat.xor_lt_two_pow (n := 32) hy (by omega)) (Nat.xor_lt_two_pow (n := 32) hy (by omega)) m h3
  have h5 : numb (fun j => f (a + j)) m = numb (fun j => g (a + j)) m := by
    have := congrArg (fun z => y ^^^ z) h4
    simpa [← Nat.xor_assoc] using this
  obtain ⟨j, hj, hne⟩ := hd
  exact hne (numb_inj m _ _ h5 j hj)
/-- bit j turned -/
def flipAt (bs : List UInt8) (j : Nat) : List UInt8 := bs.set (j / 8) (UInt8.ofNat ((bs.getD (j / 8) 0).toNat ^^^ 2 ^ (j % 8)))
@[simp] theorem flipAt_length (bs : List UInt8) (j : Nat) : (flipAt bs j).length = bs.length := by simp [flipAt]
theorem xor_pow_lt (c : UInt8) (k : Nat) (hk : k < 8) : c.toNat ^^^ 2 ^ k < 256 := Nat.xor_lt_two_pow (n := 8) c.toNat_lt (Nat.pow_lt_pow_right (by omega) hk)
theorem bitAt_flip (bs : List UInt8) (j i : Nat) (h : j < 8 * bs.length) : bitAt (flipAt bs j) i = (bitAt bs i ^^ decide (i = j)) := by
  unfold bitAt flipAt
  by_cases hb : i / 8 = j / 8
  · rw [hb, List.getD_eq_getElem?_getD, List.getElem?_set_self (by omega), Option.getD_some, UInt8.toNat_ofNat', Nat.mod_eq_of_lt (xor_pow_lt _ _ (by omega)), Nat.testBit_xor, Nat.testBit_two_pow]
    congr 1
    rw [decide_eq_decide]
    omega
  · have hne : i ≠ j := fun e => hb (by rw [e])
    rw [List.getD_eq_getElem?_getD, List.getElem?_set_ne (fun e => hb e.symm), ← List.getD_eq_getElem?_getD]
    simp [hne]
/-- bytes in which the bits of a pattern are turned, k of them looked at; was any turned? -/
def turnB (bs : List UInt8) (first lim pat : Nat) : Nat → List UInt8
  | 0 => bs
  | k + 1 => if pat.testBit k = true ∧ first + k < lim then flipAt (turnB bs first lim pat k) (first + k) else turnB bs first lim pat k
def turnA (first lim pat : Nat) : Nat → Bool
  | 0 => false
  | k + 1 => if pat.testBit k = true ∧ first + k < lim then true else turnA first lim pat k
@[simp] theorem turnB_length (bs : List UInt8) (first lim pat : Nat) : ∀ k, (turnB bs first lim pat k).length = bs.length
  | 0 => rfl
  | k + 1 => by
    simp only [turnB]
    split
    · rw [flipAt_length, turnB_length]
    · exact turnB_length bs first lim pat k
theorem bitAt_turnB (bs : List UInt8) (first lim pat : Nat) (hl : lim ≤ 8 * bs.length) : ∀ k i, bitAt (turnB bs first lim pat k) i = (bitAt bs i ^^ decide (first ≤ i ∧ i < first + k ∧ i < lim ∧ pat.testBit (i - first) = true))
  | 0, i => by
    have : ¬ (first ≤ i ∧ i < first + 0 ∧ i < lim ∧ pat.testBit (i - first) = true) := by omega
    simp only [turnB, decide_eq_false this, Bool.xor_false]
  | k + 1, i => by
    have ih := bitAt_turnB bs first lim pat hl k i
    simp only [turnB]
    by_cases hc : pat.testBit k = true ∧ first + k < lim
    · rw [if_pos hc, bitAt_flip _ _ _ (by rw [turnB_length]; omega), ih]
      by_cases hi : i = first + k
      · subst hi
        have h1 : ¬ (first ≤ first + k ∧ first + k < first + k ∧ first + k < lim ∧ pat.testBit (first + k - first) = true) := by omega
        have h2 : first ≤ first + k ∧ first + k < first + (k + 1) ∧ first + k < lim ∧ pat.testBit (first + k - first) = true := ⟨by omega, by omega, hc.2, by rw [Nat.add_sub_cancel_left]; exact hc.1⟩
        rw [decide_eq_false h1, decide_eq_true h2]
        simp
      · have h1 : (first ≤ i ∧ i < first + k ∧ i < lim ∧ pat.testBit (i - first) = true) ↔ (first ≤ i ∧ i < first + (k + 1) ∧ i < lim ∧ pat.testBit (i - first) = true) := by
          constructor
          · exact fun ⟨a, b, c⟩ => ⟨a, by omega, c⟩
          · exact fun ⟨a, b, c⟩ => ⟨a, by omega, c⟩
        rw [decide_eq_decide.2 h1, decide_eq_false hi, Bool.xor_false]
    · rw [if_neg hc, ih]
      congr 1
      rw [decide_eq_decide]
      constructor
      · exact fun ⟨a, b, c⟩ => ⟨a, by omega, c⟩
      · intro ⟨a, b, c, d⟩
        refine ⟨a, ?_, c, d⟩
        by_cases hi : i = first + k
        · subst hi
          rw [Nat.add_sub_cancel_left] at d
          exact absurd ⟨d, c⟩ hc
        · omega
theorem turnA_iff (first lim pat : Nat) : ∀ k, turnA first lim pat k = true ↔ ∃ j, j < k ∧ pat.testBit j = true ∧ first + j < lim
  | 0 => by simp [turnA]
  | k + 1 => by
    simp only [turnA]
    by_cases hc : pat.testBit k = true ∧ first + k < lim
    · rw [if_pos hc]
      exact ⟨fun _ => ⟨k, by omega, hc⟩, fun _ => rfl⟩
    · rw [if_neg hc, turnA_iff first lim pat k]
      constructor
      · exact fun ⟨j, hj, h⟩ => ⟨j, by omega, h⟩
      · intro ⟨j, hj, h⟩
        refine ⟨j, ?_, h⟩
        by_cases e : j = k
        · subst e; exact absurd h hc
        · omega
theorem turnB_none (bs : List UInt8) (first lim pat : Nat) : ∀ k, turnA first lim pat k = false → turnB bs first lim pat k = bs
  | 0, _ => rfl
  | k + 1, h => by
    simp only [turnA] at h
    simp only [turnB]
    split at h
    · cases h
    · rename_i hc
      rw [if_neg hc]
      exact turnB_none bs first lim pat k h
theorem turnB_drop (bs : List UInt8) (first B pat : Nat) : ∀ k, (turnB bs first (8 * B) pat k).drop B = bs.drop B
  | 0 => rfl
  | k + 1 => by
    simp only [turnB]
    split
    · rename_i hc
      rw [← turnB_drop bs first B pat k, flipAt]
      exact List.drop_set_of_lt (by omega)
    · exact turnB_drop bs first B pat k
theorem bitAt_take (bs : List UInt8) (B i : Nat) (h : i < 8 * B) : bitAt (bs.take B) i = bitAt bs i := by
  unfold bitAt
  rw [List.getD_eq_getElem?_getD, List.getElem?_take, if_pos (by omega), ← List.getD_eq_getElem?_getD]
/-- turned bytes have another register -/
theorem turned_cadd (bs : List UInt8) (first B pat x : Nat) (hx : x < 4294967296) (hB : B ≤ bs.length) (h : turnA first (8 * B) pat 32 = true) : cadd x ((turnB bs first (8 * B) pat 32).take B) ≠ cadd x (bs.take B) := by
  rw [cadd_brun, cadd_brun, List.length_take, List.length_take, turnB_length, Nat.min_eq_left hB]
  obtain ⟨j, hj, hp, hl⟩ := (turnA_iff _ _ _ _).1 h
  have hb : ∀ i, i < 8 * B → bitAt ((turnB bs first (8 * B) pat 32).take B) i = (bitAt (bs.take B) i ^^ decide (first ≤ i ∧ i < first + 32 ∧ i < 8 * B ∧ pat.testBit (i - first) = true)) := by
    intro i hi
    rw [bitAt_take _ _ _ hi, bitAt_take _ _ _ hi, bitAt_turnB _ _ _ _ (by omega)]
  refine burst _ _ first (min 32 (8 * B - first)) (8 * B) x hx (by omega) (by omega) ?_ ⟨j, by omega, ?_⟩
  · intro i hi ho
    rw [hb i hi, decide_eq_false (by omega), Bool.xor_false]
  · rw [hb _ (by omega), decide_eq_true ⟨by omega, by omega, by omega, by rw [Nat.add_sub_cancel_left]; exact hp⟩]
    simp
theorem turned_csum (bs : List UInt8) (first B pat : Nat) (hB : B ≤ bs.length) (h : turnA first (8 * B) pat 32 = true) : csum ((turnB bs first (8 * B) pat 32).take B) ≠ csum (bs.take B) := by
  intro he
  have h1 := cadd_lt (x := 4294967295) (by decide) ((turnB bs first (8 * B) pat 32).take B)
  have h2 := cadd_lt (x := 4294967295) (by decide) (bs.take B)
  unfold csum at he
  exact turned_cadd bs first B pat 4294967295 (by decide) hB h (by omega)
/-- bytes whose last four from B on are their sum, burst turned ahead of it: they are not closed by their sum any more -/
theorem turned_open (bs : List UInt8) (first B pat : Nat) (hB : B + 4 = bs.length) (h : turnA first (8 * B) pat 32 = true) (hs : bs.drop B = le 4 (csum (bs.take B))) :
    (turnB bs first (8 * B) pat 32).drop B ≠ le 4 (csum ((turnB bs first (8 * B) pat 32).take B)) := by
  rw [turnB_drop, hs]
  intro he
  have h1 := congrArg num he
  rw [num_le _ _ (by have := csum_lt (bs.take B); have e : (256 : Nat) ^ 4 = 4294967296 := rfl; omega), num_le _ _ (by have := csum_lt ((turnB bs first (8 * B) pat 32).take B); have e : (256 : Nat) ^ 4 = 4294967296 := rfl; omega)] at h1
  exact turned_csum bs first B pat (by omega) h h1.symm
theorem turned_ne (bs : List UInt8) (first B pat : Nat) (hB : B ≤ bs.length) (h : turnA first (8 * B) pat 32 = true) : turnB bs first (8 * B) pat 32 ≠ bs := by
  intro he
  exact turned_csum bs first B pat hB h (by rw [he])
end Go.Kn
