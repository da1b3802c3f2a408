
/- Scripts: which events may be, how they are laid and read. Plain, no program in sight. -/
import Derived.Test.YtkpagiokjihmhaaSeal
import Derived.Test.YtkpagiokjihmhaaItemQ
set_option linter.unusedVariables false
namespace Go.Kn
open Go Go.RowKit
/-- an event -/
structure Ev where
  k : Int
  a : Int
  b : Int
  y : Int
  ps : List Int
def Ev.may (e : Ev) : Bool :=
  e.ps.all (fun n => decide (0 ≤ n ∧ n ≤ 191)) && (decide (1 ≤ e.k ∧ e.k ≤ 19) && (decide (0 ≤ e.a ∧ e.a ≤ 2147483647) && (decide (0 ≤ e.b ∧ e.b ≤ 2147483647) && (decide (0 ≤ e.y ∧ e.y ≤ 65535) && decide (e.ps.length ≤ 100)))))
theorem Ev.may_bounds {e : Ev} (h : e.may = true) : (∀ n ∈ e.ps, 0 ≤ n ∧ n ≤ 191) ∧ (1 ≤ e.k ∧ e.k ≤ 19) ∧ (0 ≤ e.a ∧ e.a ≤ 2147483647) ∧ (0 ≤ e.b ∧ e.b ≤ 2147483647) ∧ (0 ≤ e.y ∧ e.y ≤ 65535) ∧ e.ps.length ≤ 100 := by
  unfold Ev.may at h
  simpa only [Bool.and_eq_true, decide_eq_true_eq, List.all_eq_true] using h
/-- the numbers of an event, each of its width -/
def Ev.nums (e : Ev) : List (Nat × Int) := [(1, e.k), (4, e.a), (4, e.b), (2, e.y), (1, (e.ps.length : Int))] ++ e.ps.map fun z => (1, z)
theorem wid_append (a b : List (Nat × Int)) : wid (a ++ b) = wid a + wid b := by simp [wid]
theorem wid_put (n : Nat) (zs : List Int) : wid (zs.map fun z => (n, z)) = n * zs.length := by
  induction zs with
  | nil => rfl
  | cons z zs ih =>
    have : wid ((z :: zs).map fun z => (n, z)) = n + wid (zs.map fun z => (n, z)) := by simp [wid]
    rw [this, ih, List.length_cons, Nat.mul_succ]
    omega
theorem Ev.nums_wid (e : Ev) : wid e.nums = 12 + e.ps.length := by
  unfold Ev.nums
  rw [wid_append, wid_put]
  show 1 + (4 + (4 + (2 + (1 + 0)))) + 1 * e.ps.length = _
  omega
/-- the numbers of a script: its beginning, how many events, the events -/
def scrNums (n : Nat) (l : List Ev) : List (Nat × Int) := [(1, 75), (1, 69), (2, (n : Int))] ++ l.flatMap Ev.nums
theorem scrNums_snoc (n : Nat) (l : List Ev) (e : Ev) : scrNums n (l ++ [e]) = scrNums n l ++ e.nums := by simp [scrNums]
theorem scrNums_nil (n : Nat) : scrNums n [] = [(1, 75), (1, 69), (2, (n : Int))] := by simp [scrNums]
/-- bytes of events -/
def evsW (l : List Ev) : Nat := (l.map fun e => 12 + e.ps.length).sum
theorem evsW_wid (n : Nat) (l : List Ev) : wid (scrNums n l) = 4 + evsW l := by
  have h : wid (l.flatMap Ev.nums) = evsW l := by
    induction l with
    | nil => rfl
    | cons e l ih =>
      rw [List.flatMap_cons, wid_append, ih, Ev.nums_wid]
      simp [evsW]
  unfold scrNums
  rw [wid_append, h]
  show 1 + (1 + (2 + 0)) + _ = _
  omega
theorem evsW_snoc (l : List Ev) (e : Ev) : evsW (l ++ [e]) = evsW l + (12 + e.ps.length) := by simp [evsW]
theorem evsW_take_succ (l : List Ev) (j : Nat) (h : j < l.length) : evsW (l.take (j + 1)) = evsW (l.take j) + (12 + l[j].ps.length) := by
  rw [List.take_succ_eq_append_getElem h, evsW_snoc]
theorem evsW_append (a b : List Ev) : evsW (a ++ b) = evsW a + evsW b := by simp [evsW]
theorem evsW_take_le (l : List Ev) (j : Nat) : evsW (l.take j) ≤ evsW l := by
  have h := evsW_append (l.take j) (l.drop j)
  rw [List.take_append_drop] at h
  omega
theorem evsW_le {l : List Ev} (h : l.all Ev.may = true) : evsW l ≤ 112 * l.length := by
  induction l with
  | nil => simp [evsW]
  | cons e l ih =>
    simp only [List.all_cons, Bool.and_eq_true] at h
    have h1 := ih h.2
    have h2 := (Ev.may_bounds h.1).2.2.2.2.2
    have h3 : evsW (e :: l) = (12 + e.ps.length) + evsW l := by simp [evsW]
    rw [h3, List.length_cons]
    omega
/-- a script's bytes ahead of its sum -/
def scrHead (l : List Ev) : List UInt8 := cat (scrNums l.length l)
def scrBytes (l : List Ev) : List UInt8 := scrHead l ++ le 4 (csum (scrHead l))
def encEvs (l : List Ev) : Option (List UInt8) := if l.length ≤ 400 ∧ l.all Ev.may = true then some (scrBytes l) else none
theorem scrHead_length (l : List Ev) : (scrHead l).length = 4 + evsW l := by
  unfold scrHead
  rw [cat_length, evsW_wid]
theorem scrBytes_length (l : List Ev) : (scrBytes l).length = 8 + evsW l := by
  unfold scrBytes
  rw [List.length_append, scrHead_length, le_length]
  omega
theorem scrBytes_closed (l : List Ev) : Closed (scrBytes l) ((scrBytes l).length - 4) := by
  have h : (scrBytes l).length - 4 = (scrHead l).length := by rw [scrBytes_length, scrHead_length]; omega
  unfold Closed
  rw [h]
  unfold scrBytes
  rw [List.drop_left, List.take_left]
theorem encEvs_some {l : List Ev} {b : List UInt8} (h : encEvs l = some b) : (l.length ≤ 400 ∧ l.all Ev.may = true) ∧ b = scrBytes l := by
  unfold encEvs at h
  split at h
  · injection h with h
    exact ⟨by assumption, h.symm⟩
  · cases h
theorem encEvs_good {l : List Ev} (h : l.length ≤ 400) (hm : l.all Ev.may = true) : encEvs l = some (scrBytes l) := by unfold encEvs; rw [if_pos ⟨h, hm⟩]
theorem encEvs_bad {l : List Ev} {j : Nat} (hj : j < l.length) (hm : l[j].may = false) : encEvs l = none := by
  unfold encEvs
  rw [if_neg]
  intro h
  have := List.all_eq_true.1 h.2 l[j] (List.getElem_mem _)
  rw [hm] at this
  cases this
theorem encEvs_many {l : List Ev} (h : 400 < l.length) : encEvs l = none := by unfold encEvs; rw [if_neg (by omega)]

/-- the event that the calls read from a place on; the place behind it -/
def evK4 (bs : List UInt8) (k : Nat) : Nat := getK bs (getK bs (getK bs (getK bs (getK bs k 1) 4) 4) 2) 1
def evN (bs : List UInt8) (k : Nat) : Nat := getN bs (getK bs (getK bs (getK bs (getK bs k 1) 4) 4) 2) 1
def evK (bs : List UInt8) (k : Nat) : Nat := takeK bs (evK4 bs k) (evN bs k)
def izs (xs : List UInt8) : List Int := xs.map fun c => ((c.toNat : Nat) : Int)
def evAt (bs : List UInt8) (k : Nat) : Ev :=
  ⟨getN bs k 1, getN bs (getK bs k 1) 4, getN bs (getK bs (getK bs k 1) 4) 4, getN bs (getK bs (getK bs (getK bs k 1) 4) 4) 2, izs (takeB bs (evK4 bs k) (evN bs k))⟩
def posOf (bs : List UInt8) (k : Nat) : Nat → Nat
  | 0 => k
  | j + 1 => evK bs (posOf bs k j)
def readEvs (bs : List UInt8) (k : Nat) : Nat → List Ev
  | 0 => []
  | j + 1 => readEvs bs k j ++ [evAt bs (posOf bs k j)]
@[simp] theorem readEvs_length (bs : List UInt8) (k : Nat) : ∀ j, (readEvs bs k j).length = j
  | 0 => rfl
  | j + 1 => by simp [readEvs, readEvs_length bs k j]
def scrN (bs : List UInt8) : Nat := min (getN bs (takeK bs 0 2) 2) 400
def scrK (bs : List UInt8) : Nat := getK bs (takeK bs 0 2) 2
def scrOf (bs : List UInt8) : List Ev := readEvs bs (scrK bs) (scrN bs)
def decEvs (bs : List UInt8) : Option (List Ev) := decBy encEvs scrOf bs

theorem get_front {bs : List UInt8} {a r : List UInt8} {w : Nat} {z : Int} (hw : w = 1 ∨ w = 2 ∨ w = 4) (hz : 0 ≤ z ∧ z < 256 ^ w) (hb : bs = a ++ (le w z.toNat ++ r)) : (getN bs a.length w : Int) = z ∧ getK bs a.length w = a.length + w := by
  have hl : a.length + w ≤ bs.length := by rw [hb]; simp
  have e : getOk bs a.length w = true := by unfold getOk; exact decide_eq_true ⟨by omega, by omega⟩
  have h3 : ((256 ^ w : Nat) : Int) = (256 : Int) ^ w := by simp
  have h4 : z.toNat < 256 ^ w := by omega
  refine ⟨?_, by simp [getK, e]⟩
  simp only [getN, e, if_true, Int.toNat_natCast]
  rw [hb, List.drop_left, List.take_left' (by simp), num_le _ _ h4]
  omega
theorem take_front {bs a x r : List UInt8} {m : Nat} (hm : x.length = m) (hb : bs = a ++ (x ++ r)) : takeB bs a.length m = x ∧ takeK bs a.length m = a.length + m := by
  have hl : a.length + m ≤ bs.length := by rw [hb]; simp [hm]
  have e : takeOk bs a.length m = true := by unfold takeOk; exact decide_eq_true ⟨by omega, by omega⟩
  refine ⟨?_, by simp [takeK, e]⟩
  simp only [takeB, e, if_true, Int.toNat_natCast]
  rw [hb, List.drop_left, List.take_left' hm]
theorem izs_les : ∀ (zs : List Int), (∀ z ∈ zs, 0 ≤ z ∧ z ≤ 191) → izs (les 1 zs) = zs
  | [], _ => rfl
  | z :: zs, h => by
    have h0 := h z (by simp)
    have ih := izs_les zs fun x hx => h x (by simp [hx])
    have e : les 1 (z :: zs) = UInt8.ofNat z.toNat :: les 1 zs := rfl
    rw [e]
    simp only [izs, List.map_cons, UInt8.toNat_ofNat'] at ih ⊢
    rw [ih]
    congr 1
    omega
/-- an event that was laid is read as it was -/
theorem ev_front {bs a r : List UInt8} {e : Ev} (hm : e.may = true) (hb : bs = a ++ (cat e.nums ++ r)) : evAt bs a.length = e ∧ evK bs a.length = a.length + (12 + e.ps.length) := by
  obtain ⟨hp, hk, ha, hbb, hy, hl⟩ := Ev.may_bounds hm
  have e1 : (256 : Int) ^ 1 = 256 := rfl
  have e2 : (256 : Int) ^ 2 = 65536 := rfl
  have e4 : (256 : Int) ^ 4 = 4294967296 := rfl
  have hc : cat e.nums ++ r = le 1 e.k.toNat ++ (le 4 e.a.toNat ++ (le 4 e.b.toNat ++ (le 2 e.y.toNat ++ (le 1 ((e.ps.length : Int)).toNat ++ (les 1 e.ps ++ r))))) := by
    unfold Ev.nums
    rw [cat_append, ← les_cat]
    simp [cat, List.append_assoc]
  rw [hc] at hb
  obtain ⟨n0, k0⟩ := get_front (w := 1) (by omega) (by omega) hb
  have hb1 : bs = (a ++ le 1 e.k.toNat) ++ (le 4 e.a.toNat ++ (le 4 e.b.toNat ++ (le 2 e.y.toNat ++ (le 1 ((e.ps.length : Int)).toNat ++ (les 1 e.ps ++ r))))) := by rw [hb]; simp only [List.append_assoc]
  obtain ⟨n1, k1⟩ := get_front (w := 4) (by omega) (by omega) hb1
  have hb2 : bs = ((a ++ le 1 e.k.toNat) ++ le 4 e.a.toNat) ++ (le 4 e.b.toNat ++ (le 2 e.y.toNat ++ (le 1 ((e.ps.length : Int)).toNat ++ (les 1 e.ps ++ r)))) := by rw [hb]; simp only [List.append_assoc]
  obtain ⟨n2, k2⟩ := get_front (w := 4) (by omega) (by omega) hb2
  have hb3 : bs = (((a ++ le 1 e.k.toNat) ++ le 4 e.a.toNat) ++ le 4 e.b.toNat) ++ (le 2 e.y.toNat ++ (le 1 ((e.ps.length : Int)).toNat ++ (les 1 e.ps ++ r))) := by rw [hb]; simp only [List.append_assoc]
  obtain ⟨n3, k3⟩ := get_front (w := 2) (by omega) (by omega) hb3
  have hb4 : bs = ((((a ++ le 1 e.k.toNat) ++ le 4 e.a.toNat) ++ le 4 e.b.toNat) ++ le 2 e.y.toNat) ++ (le 1 ((e.ps.length : Int)).toNat ++ (les 1 e.ps ++ r)) := by rw [hb]; simp only [List.append_assoc]
  obtain ⟨n4, k4⟩ := get_front (w := 1) (by omega) (by omega) hb4
  have hb5 : bs = (((((a ++ le 1 e.k.toNat) ++ le 4 e.a.toNat) ++ le 4 e.b.toNat) ++ le 2 e.y.toNat) ++ le 1 ((e.ps.length : Int)).toNat) ++ (les 1 e.ps ++ r) := by rw [hb]; simp only [List.append_assoc]
  obtain ⟨t5, k5⟩ := take_front (m := e.ps.length) (x := les 1 e.ps) (by rw [les_length]; omega) hb5
  simp only [List.length_append, le_length] at n1 k1 n2 k2 n3 k3 n4 k4 t5 k5
  have c1 : ((1 : Nat) : Int) = 1 := rfl
  have c2 : ((2 : Nat) : Int) = 2 := rfl
  have c4 : ((4 : Nat) : Int) = 4 := rfl
  rw [c1] at n0 k0 n4 k4
  rw [c4] at n1 k1 n2 k2
  rw [c2] at n3 k3
  have hn : evN bs a.length = e.ps.length := by
    unfold evN
    rw [k0, k1, k2, k3]
    omega
  have hk4 : evK4 bs a.length = a.length + 1 + 4 + 4 + 2 + 1 := by unfold evK4; rw [k0, k1, k2, k3, k4]
  constructor
  · unfold evAt
    rw [hn, hk4, t5, k0, k1, k2, n0, n1, n2, n3, izs_les _ hp]
  · unfold evK
    rw [hn, hk4, k5]
    omega
/-- events that were laid are read as they were, whatever stands behind -/
theorem evs_front {bs a : List UInt8} : ∀ (l : List Ev) (r : List UInt8), l.all Ev.may = true → bs = a ++ (cat (l.flatMap Ev.nums) ++ r) → ∀ j, j ≤ l.length → readEvs bs a.length j = l.take j ∧ posOf bs a.length j = a.length + evsW (l.take j) := by
  intro l r hm hb j
  induction j with
  | zero => intro _; exact ⟨by simp [readEvs], by simp [posOf, evsW]⟩
  | succ j ih =>
    intro hj
    obtain ⟨h1, h2⟩ := ih (by omega)
    have hmj : l[j].may = true := List.all_eq_true.1 hm l[j] (List.getElem_mem _)
    have hs : l = l.take j ++ (l[j] :: l.drop (j + 1)) := by rw [← List.drop_eq_getElem_cons (by omega), List.take_append_drop]
    have hfl : cat (l.flatMap Ev.nums) = cat ((l.take j).flatMap Ev.nums) ++ (cat l[j].nums ++ cat ((l.drop (j + 1)).flatMap Ev.nums)) := by
      conv => lhs; rw [hs]
      rw [List.flatMap_append, List.flatMap_cons, cat_append, cat_append]
    have hw : (cat ((l.take j).flatMap Ev.nums)).length = evsW (l.take j) := by
      have h := evsW_wid 0 (l.take j)
      unfold scrNums at h
      rw [wid_append] at h
      rw [cat_length]
      have : wid [(1, 75), (1, 69), (2, ((0 : Nat) : Int))] = 4 := rfl
      omega
    have hb2 : bs = (a ++ cat ((l.take j).flatMap Ev.nums)) ++ (cat l[j].nums ++ (cat ((l.drop (j + 1)).flatMap Ev.nums) ++ r)) := by
      rw [hb, hfl]
      simp only [List.append_assoc]
    obtain ⟨f1, f2⟩ := ev_front hmj hb2
    rw [List.length_append, hw, ← h2] at f1 f2
    constructor
    · rw [readEvs, h1, f1, ← List.take_succ_eq_append_getElem (by omega)]
    · rw [posOf, f2, h2, evsW_take_succ _ _ (by omega)]
      omega
theorem scrOf_front {l : List Ev} (r : List UInt8) (hl : l.length ≤ 400) (hm : l.all Ev.may = true) : scrOf (scrHead l ++ r) = l := by
  have e2 : (256 : Int) ^ 2 = 65536 := rfl
  have hc : scrHead l = le 1 (75 : Int).toNat ++ le 1 (69 : Int).toNat ++ (le 2 ((l.length : Nat) : Int).toNat ++ cat (l.flatMap Ev.nums)) := by
    unfold scrHead scrNums
    rw [cat_append]
    simp [cat, List.append_assoc]
  generalize hbs : scrHead l ++ r = bs
  have hb0 : bs = [] ++ ((le 1 (75 : Int).toNat ++ le 1 (69 : Int).toNat) ++ ((le 2 ((l.length : Nat) : Int).toNat ++ cat (l.flatMap Ev.nums)) ++ r)) := by
    rw [← hbs, hc]
    simp only [List.append_assoc, List.nil_append]
  obtain ⟨_, t0⟩ := take_front (m := 2) (by simp) hb0
  have hb1 : bs = (le 1 (75 : Int).toNat ++ le 1 (69 : Int).toNat) ++ (le 2 ((l.length : Nat) : Int).toNat ++ (cat (l.flatMap Ev.nums) ++ r)) := by
    rw [hb0]
    simp only [List.append_assoc, List.nil_append]
  obtain ⟨n1, k1⟩ := get_front (w := 2) (by omega) (by omega) hb1
  have hb2 : bs = ((le 1 (75 : Int).toNat ++ le 1 (69 : Int).toNat) ++ le 2 ((l.length : Nat) : Int).toNat) ++ (cat (l.flatMap Ev.nums) ++ r) := by
    rw [hb1]
    simp only [List.append_assoc]
  have h := (evs_front l r hm hb2 l.length (Nat.le_refl _)).1
  simp only [List.length_append, le_length, List.length_nil, Nat.zero_add] at n1 k1 t0 h
  have c2 : ((2 : Nat) : Int) = 2 := rfl
  rw [c2] at t0 n1 k1
  have hk : takeK bs 0 2 = 2 := t0
  unfold scrOf scrK scrN
  rw [hk]
  have hn : getN bs 2 2 = l.length := by
    have : (getN bs (1 + 1) 2 : Int) = (l.length : Int) := n1
    exact Int.ofNat.inj this
  have hk2 : getK bs 2 2 = 4 := k1
  rw [hn, hk2, Nat.min_eq_left hl]
  rw [List.take_length] at h
  exact h
theorem scrOf_back {l : List Ev} (r : List UInt8) (hl : l.length ≤ 400) (hm : l.all Ev.may = true) : scrOf (scrBytes l ++ r) = l := by
  unfold scrBytes
  rw [List.append_assoc]
  exact scrOf_front _ hl hm
theorem encEvs_of {l : List Ev} {b : List UInt8} (h : encEvs l = some b) : scrOf b = l := by
  obtain ⟨⟨h1, h2⟩, rfl⟩ := encEvs_some h
  have := scrOf_back [] h1 h2
  rwa [List.append_nil] at this
theorem evs_back {l : List Ev} (h : l.length ≤ 400) (hm : l.all Ev.may = true) : decEvs (scrBytes l) = some l := decBy_back (encEvs_of (encEvs_good h hm)) (encEvs_good h hm)
theorem decEvs_enc {b : List UInt8} {l : List Ev} (h : decEvs b = some l) : encEvs l = some b := decBy_enc h
/-- cut short it is none -/
theorem evs_cut {l : List Ev} (h : l.length ≤ 400) (hm : l.all Ev.may = true) (k : Nat) (hk : k < (scrBytes l).length) : decEvs ((scrBytes l).take k) = none := by
  cases hd : decEvs ((scrBytes l).take k) with
  | none => rfl
  | some x =>
    obtain ⟨⟨h1, h2⟩, h3⟩ := encEvs_some (decEvs_enc hd)
    have e1 : scrBytes l = scrBytes x ++ (scrBytes l).drop k := by rw [← h3, List.take_append_drop]
    have e2 := scrOf_back ((scrBytes l).drop k) h1 h2
    have e3 := encEvs_of (encEvs_good h hm)
    rw [← e1, e3] at e2
    subst e2
    have := congrArg List.length h3
    rw [List.length_take] at this
    omega
/-- with bytes behind it is none -/
theorem evs_long {l : List Ev} (h : l.length ≤ 400) (hm : l.all Ev.may = true) (r : List UInt8) (hr : 0 < r.length) : decEvs (scrBytes l ++ r) = none := by
  cases hd : decEvs (scrBytes l ++ r) with
  | none => rfl
  | some x =>
    obtain ⟨⟨h1, h2⟩, h3⟩ := encEvs_some (decEvs_enc hd)
    have e2 := scrOf_back r h hm
    have e3 := encEvs_of (encEvs_good h1 h2)
    rw [h3, e3] at e2
    subst e2
    have := congrArg List.length h3
    rw [List.length_append] at this
    omega
theorem evs_inj {l m : List Ev} (h : l.length ≤ 400) (hm : l.all Ev.may = true) (h' : m.length ≤ 400) (hm' : m.all Ev.may = true) (e : scrBytes l = scrBytes m) : l = m := by
  have e1 := encEvs_of (encEvs_good h hm)
  have e2 := encEvs_of (encEvs_good h' hm')
  rw [e, e2] at e1
  exact e1.symm
theorem evs_turned {b : List UInt8} {first pat : Nat} (h4 : 4 ≤ b.length) (hc : Closed b (b.length - 4)) (ha : turnA first (8 * (b.length - 4)) pat 32 = true) : decEvs (turnB b first (8 * (b.length - 4)) pat 32) = none :=
  decBy_turned (fun x y h => by rw [(encEvs_some h).2]; exact scrBytes_closed x) (by omega) hc ha
theorem scrBytes_mid (l : List Ev) : ((scrBytes l).drop 4).take ((scrBytes l).length - 8) = cat (l.flatMap Ev.nums) := by
  have hc : scrBytes l = cat [(1, 75), (1, 69), (2, (l.length : Int))] ++ (cat (l.flatMap Ev.nums) ++ le 4 (csum (scrHead l))) := by
    unfold scrBytes
    rw [← List.append_assoc, ← cat_append]
    rfl
  have hw : (cat (l.flatMap Ev.nums)).length = evsW l := by
    have h := scrHead_length l
    unfold scrHead scrNums at h
    rw [cat_append, List.length_append, cat_length] at h
    have : wid [(1, 75), (1, 69), (2, (l.length : Int))] = 4 := rfl
    omega
  rw [scrBytes_length, show 8 + evsW l - 8 = (cat (l.flatMap Ev.nums)).length by omega, hc, List.drop_left' (by rw [cat_length]; rfl), List.take_left]
theorem evs_len {bs : List UInt8} (h : bs.length < 8 ∨ 65536 < bs.length) : decEvs bs = none := by
  cases hd : decEvs bs with
  | none => rfl
  | some x =>
    obtain ⟨⟨h1, h2⟩, rfl⟩ := encEvs_some (decEvs_enc hd)
    have := evsW_le h2
    rw [scrBytes_length] at h
    omega
end Go.Kn
