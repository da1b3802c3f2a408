
/- Contract of region.Decode. Printed by mkregdec.py. -/
import Derived.Test.YtkpagiokjihmhaaRegH
set_option linter.unusedVariables false
set_option linter.unusedSimpArgs false
namespace Go.Kn
open Go Go.RowKit
/-- amid the reading of a region: the row, the reader, the box that is filled -/
structure DecG (w0 w : World) (p g f rb k : Nat) (bs : List UInt8) (cs : List Value) : Prop where
  row : RowAt w p g bs k
  box : Own w f cs
  rd : w.cell? ⟨rb, 0, none⟩ = some (.pointer (some ⟨p, 0, none⟩))
  only : Only [] w0 w
  pf : p ≠ f
  gf : g ≠ f
  pr : p ≠ rb
  fr : f ≠ rb
  hp : w0.heap.size ≤ p
  hf : w0.heap.size ≤ f
section
variable {w0 w w' : World} {p g f rb k k' : Nat} {bs : List UInt8} {cs : List Value}
theorem DecG.got (h : DecG w0 w p g f rb k bs cs) (hr : RowAt w' p g bs k') (hO : Only [p] w w') : DecG w0 w' p g f rb k' bs cs :=
  ⟨hr, h.box.keep hO (by simpa using Ne.symm h.pf), hO.cell h.rd (by simpa using Ne.symm h.pr), h.only.trans hO (by simpa using h.hp), h.pf, h.gf, h.pr, h.fr, h.hp, h.hf⟩
theorem DecG.put (h : DecG w0 w p g f rb k bs cs) (i : Nat) (u : Value) : DecG w0 (w.setCell ⟨f, i, none⟩ u) p g f rb k bs (cs.set i u) :=
  ⟨h.row.far (Ne.symm h.pf) (Ne.symm h.gf) u, h.box.set i u, ((Only.refl [f] w).set (by simp) u).cell h.rd (by simpa using Ne.symm h.fr), h.only.set (.inr h.hf) u, h.pf, h.gf, h.pr, h.fr, h.hp, h.hf⟩
theorem DecG.keep {S : List Nat} (h : DecG w0 w p g f rb k bs cs) (hO : Only S w w') (h1 : p ∉ S) (h2 : g ∉ S) (h3 : f ∉ S) (h4 : rb ∉ S) (h5 : ∀ i ∈ S, w0.heap.size ≤ i) : DecG w0 w' p g f rb k bs cs :=
  ⟨h.row.keep hO h1 h2, h.box.keep hO h3, hO.cell h.rd h4, h.only.trans hO (fun i hi => .inr (h5 i hi)), h.pf, h.gf, h.pr, h.fr, h.hp, h.hf⟩
theorem DecG.keep0 (h : DecG w0 w p g f rb k bs cs) (hO : Only [] w w') : DecG w0 w' p g f rb k bs cs := h.keep hO (by simp) (by simp) (by simp) (by simp) (by simp)
theorem DecG.drew (h : DecG w0 w p g f rb k bs cs) : DecG w0 w.drew p g f rb k bs cs := h.keep0 ((Only.refl _ _).drew)
end
/-- the cells of uses -/
def usV (l : List (Int × Int)) : List Value := l.flatMap fun u => [.int .i64 u.1, .int .i64 u.2]
theorem usV_snoc (l : List (Int × Int)) (u : Int × Int) : usV (l ++ [u]) = usV l ++ [.int .i64 u.1, .int .i64 u.2] := by simp [usV]
theorem usV_get : ∀ (l : List (Int × Int)) (i : Nat) (h : i < l.length), (usV l)[i * 2]? = some (.int .i64 l[i].1) ∧ (usV l)[i * 2 + 1]? = some (.int .i64 l[i].2)
  | [], i, h => by simp at h
  | x :: r, 0, h => by simp [usV]
  | x :: r, i + 1, h => by
    have h1 := usV_get r i (by simpa using h)
    have e : usV (x :: r) = [.int .i64 x.1, .int .i64 x.2] ++ usV r := rfl
    have e0 : (i + 1) * 2 = 2 + i * 2 := by omega
    simp only [List.getElem_cons_succ]
    rw [e, e0]
    refine ⟨?_, ?_⟩
    · rw [List.getElem?_append_right (by simp), List.length_cons, List.length_cons, List.length_nil, show 2 + i * 2 - (0 + 1 + 1) = i * 2 from by omega]; exact h1.1
    · rw [List.getElem?_append_right (by simp <;> omega), List.length_cons, List.length_cons, List.length_nil, show 2 + i * 2 + 1 - (0 + 1 + 1) = i * 2 + 1 from by omega]; exact h1.2
theorem usV_one (l : List (Int × Int)) : ∀ u ∈ usV l, u.oneCell' = true := by
  intro u hu
  simp only [usV, List.mem_flatMap] at hu
  obtain ⟨i, _, hi⟩ := hu
  simp at hi
  rcases hi with rfl | rfl <;> rfl
theorem GathN.uss {w : World} {base e : Nat} {v : Value} {l : List (Int × Int)} {n : Nat} (h : GathN w base e 2 v n (usV l)) (hl : l.length = n) : ∃ A c, v = .slice A n c ∧ Uss w A n c l ∧ (∀ k, v.ownBlock = some k → base ≤ k ∧ k < w.heap.size) := by
  obtain ⟨A, c, hv, hn, hm, hc, hb⟩ := h.form (by omega)
  refine ⟨A, c, hv, ⟨hl, hn, hm, fun h0 => ?_⟩, hb⟩
  obtain ⟨g, rfl, _, _, hcell⟩ := hc h0
  refine ⟨g, 0, rfl, fun i hi => ?_⟩
  obtain ⟨c0, c1⟩ := usV_get l i hi
  simp only [Nat.zero_add]
  exact ⟨hcell _ _ c0, hcell _ _ c1⟩
/-- an append of elements of so many cells, as one step of a region that draws its order -/
theorem step_append_elems {P : Program} {w : World} {ops : Array Oper} {o : Oper} {a : Act} {K : Act → World → Prop} {Q : Exit → Act → World → Prop} {E : Prop} (hgd : o.guard = none) (s x : Operand) (t : TypeId)
    (ho : o.op = .call { callee := .builtin .append, args := #[s, x], argTypes := #[t, t] })
    (base : Nat) (e : TypeId) (i : TypeInfo) (z : Value) (size bytes : Nat) (ht : P.underlying t = some (.slice e)) (hi : P.info? e = some i) (hz : i.zero = some z)
    (hsize : i.size = size) (hby : i.bytes = bytes) (hzs : z.cells.size = size) (hsz : 0 < size)
    (v : Value) (n : Nat) (xs : List Value) (hs : a.eval s = v) (hown : w.ownsRow base e size v n xs)
    (ad : Addr) (m c : Nat) (news : List Value) (hx : a.eval x = .slice (some ad) m c) (hl : news.length = m * size) (hnews : ∀ j u, news[j]? = some u → w.cell? (ad.add j) = some u) (h1 : ∀ u ∈ news, u.oneCell' = true)
    (h63 : n + m ≤ maxLen) (hbytes : (n + m) * bytes ≤ 140737488355328) (hbase : base ≤ w.heap.size)
    (h : ∀ v' w', w'.ownsRow base e size v' (n + m) (xs ++ news) → w.grownBy w' v.ownBlock → (v'.ownBlock = v.ownBlock ∨ v'.ownBlock = some w.heap.size) → K (a.put o.dst v') w') :
    if Region.wanted o (yielded ops a.tmps) = true then Oper.wp P o a w K Q else E := by
  have hw : Region.wanted o (yielded ops a.tmps) = true := by simp [Region.wanted, hgd]
  rw [if_pos hw]
  obtain ⟨v', w', hrun, h2, h3, _, h4⟩ := run_append_own_at (P := P) w base t o.type e i z size bytes ht hi hz hsize hby hzs hsz v n xs hown ad m c news hl hnews h1 h63 hbytes hbase
  unfold Oper.wp execOp
  simp only [ho, resolve, invoke, builtin, Sem.run_bind, Sem.run_pure, Result.andThen_ok, List.map_toArray, List.map_cons, List.map_nil, hs, hx, hrun]
  exact h v' w' h2 h3 h4
theorem Uss.keepP {S : List Nat} {w w' : World} {A : Option Addr} {n c : Nat} {l : List (Int × Int)} (h : Uss w A n c l) (ho : Only S w w') (hs : ∀ a, A = some a → a.block ∉ S) : Uss w' A n c l :=
  ⟨h.len, h.le, h.cm, fun hn => by
    obtain ⟨g, o, e, hc⟩ := h.at_ hn
    have hg := hs _ e
    exact ⟨g, o, e, fun i hi => ⟨ho.cell (hc i hi).1 hg, ho.cell (hc i hi).2 hg⟩⟩⟩
theorem RgAt.keepF {w w' : World} {r : Rg} {B O S : Sl} {f : Nat} (h : RgAt w r B O S) (ho : Only [f] w w') (h1 : ∀ a, B.1 = some a → a.block ≠ f) (h2 : ∀ a, O.1 = some a → a.block ≠ f) (h3 : ∀ a, S.1 = some a → a.block ≠ f) : RgAt w' r B O S :=
  ⟨h.base.keep ho (fun a ha => by simpa using h1 a ha), h.over.keep ho (fun a ha => by simpa using h2 a ha), h.segs.keepP ho (fun a ha => by simpa using h3 a ha)⟩
def rgZero : Rg := ⟨0, 0, 0, 0, 0, 0, 0, 0, 0, 0, 0, [], [], []⟩
/-- what a reader of regions answers -/
def RgSays (w : World) (o : Option Rg) (err : Int) (e : Ending) (w' : World) : Prop :=
  ∃ B O S : Sl, e = .returned (.tuple #[.agg ((o.getD rgZero).cells B O S).toArray, .int .i64 (if o.isSome then 0 else err)]) ∧ RgAt w' (o.getD rgZero) B O S ∧ ((∀ a, B.1 = some a → w.heap.size ≤ a.block) ∧ (∀ a, O.1 = some a → w.heap.size ≤ a.block) ∧ (∀ a, S.1 = some a → w.heap.size ≤ a.block)) ∧ Only [] w w'
theorem rgAt_zero (w : World) : RgAt w rgZero (none, 0, 0) (none, 0, 0) (none, 0, 0) := ⟨Row1.nil _, Row1.nil _, Uss.nil _⟩
theorem RgSays.no {w w' : World} {o : Option Rg} {err : Int} (h : o = none) (hO : Only [] w w') : RgSays w o err (.returned (.tuple #[.agg #[.int .i64 0, .int .i64 0, .int .i64 0, .int .i64 0, .int .i64 0, .int .i64 0, .int .i64 0, .int .i64 0, .int .i64 0, .int .i64 0, .int .i64 0, .slice none 0 0, .slice none 0 0, .slice none 0 0], .int .i64 err])) w' := by
  subst h
  exact ⟨(none, 0, 0), (none, 0, 0), (none, 0, 0), rfl, rgAt_zero _, ⟨by simp, by simp, by simp⟩, hO⟩
end Go.Kn
namespace Go.Proofs.Ytkpagiokjihmhaa
open Go Go.RowKit Go.Kn

theorem Try.infoUse : (Try.prog.info? 120).map (fun i => (i.zero, i.size, i.bytes)) = some (some (.agg #[.int .i64 0, .int .i64 0]), 2, 16) := by kernel_rfl

set_option maxRecDepth 100000 in
set_option maxHeartbeats 16000000 in
theorem region_dec_any (q : Nat) (b s l : Int) (A : Option Addr) (n c : Nat) (bs : List UInt8) (w : World) (hg : GeoAt w q b s l) (hc : CfOk b s l) (hi : Bys w A n c bs) (hn : n ≤ 65536) :
    Calls Try.prog 69 #[.pointer (some ⟨q, 0, none⟩), .slice A n c] w (RgSays w (decRg b s l bs) 2) := by
  have hres : Try.f69.results = #[.cell 4 52, .tmp 5] := by kernel_rfl
  have HRES := Lib.hid hres
  obtain ⟨i0, hi0, hz0, hz1, hz2⟩ := info_parts Try.infoUse
  obtain ⟨sN, rfl⟩ : ∃ sN : Nat, s = (sN : Int) := ⟨s.toNat, by unfold CfOk at hc; omega⟩
  have hsN : sN ≤ 32 := by unfold CfOk at hc; omega
  have hlen := hi.len
  rw [bvs_length] at hlen
  have HI := Lib.hid hi
  have HL := Lib.hid hlen
  have HG := Lib.hid hg
  have HC := Lib.hid hc
  have hql := hg.lt
  have hpg := pgs_bounds hc
  have hPN : pgs b = (pgN b : Int) := by unfold pgN; omega
  obtain ⟨x0, hx0⟩ : ∃ x : Int, ((getN bs (rgK0 bs) 4 : Nat) : Int) = x := ⟨_, rfl⟩
  have HV0 := Lib.hid hx0
  obtain ⟨x1, hx1⟩ : ∃ x : Int, ((getN bs (rgK1 bs) 4 : Nat) : Int) = x := ⟨_, rfl⟩
  have HV1 := Lib.hid hx1
  obtain ⟨x2, hx2⟩ : ∃ x : Int, ((getN bs (rgK2 bs) 1 : Nat) : Int) = x := ⟨_, rfl⟩
  have HV2 := Lib.hid hx2
  obtain ⟨x3, hx3⟩ : ∃ x : Int, ((getN bs (rgK3 bs) 4 : Nat) : Int) = x := ⟨_, rfl⟩
  have HV3 := Lib.hid hx3
  obtain ⟨x4, hx4⟩ : ∃ x : Int, ((getN bs (rgK4 bs) 4 : Nat) : Int) = x := ⟨_, rfl⟩
  have HV4 := Lib.hid hx4
  obtain ⟨x5, hx5⟩ : ∃ x : Int, ((getN bs (rgK5 bs) 4 : Nat) : Int) = x := ⟨_, rfl⟩
  have HV5 := Lib.hid hx5
  obtain ⟨x6, hx6⟩ : ∃ x : Int, ((getN bs (rgK6 bs) 1 : Nat) : Int) = x := ⟨_, rfl⟩
  have HV6 := Lib.hid hx6
  obtain ⟨x7, hx7⟩ : ∃ x : Int, ((getN bs (rgK7 bs) 1 : Nat) : Int) = x := ⟨_, rfl⟩
  have HV7 := Lib.hid hx7
  obtain ⟨x8, hx8⟩ : ∃ x : Int, ((getN bs (rgK8 bs) 4 : Nat) : Int) = x := ⟨_, rfl⟩
  have HV8 := Lib.hid hx8
  obtain ⟨x9, hx9⟩ : ∃ x : Int, ((getN bs (rgK9 bs) 4 : Nat) : Int) = x := ⟨_, rfl⟩
  have HV9 := Lib.hid hx9
  obtain ⟨x10, hx10⟩ : ∃ x : Int, ((getN bs (rgK10 bs) 4 : Nat) : Int) = x := ⟨_, rfl⟩
  have HV10 := Lib.hid hx10
  clear hi hlen hg hc hres hx0 hx1 hx2 hx3 hx4 hx5 hx6 hx7 hx8 hx9 hx10
  have hB0 := Own.new w #[.int .i64 0, .int .i64 0, .int .i64 0, .int .i64 0, .int .i64 0, .int .i64 0, .int .i64 0, .int .i64 0, .int .i64 0, .int .i64 0, .int .i64 0, .slice none 0 0, .slice none 0 0, .slice none 0 0] 52
  have hO0 := (Only.refl [] w).alloc (.cells #[.int .i64 0, .int .i64 0, .int .i64 0, .int .i64 0, .int .i64 0, .int .i64 0, .int .i64 0, .int .i64 0, .int .i64 0, .int .i64 0, .int .i64 0, .slice none 0 0, .slice none 0 0, .slice none 0 0] 52)
  have HI0 := Lib.hid (HI.out.alloc (.cells #[.int .i64 0, .int .i64 0, .int .i64 0, .int .i64 0, .int .i64 0, .int .i64 0, .int .i64 0, .int .i64 0, .int .i64 0, .int .i64 0, .int .i64 0, .slice none 0 0, .slice none 0 0, .slice none 0 0] 52))
  have hfl := hB0.lt
  go_enter Try.func69, Try.ntmps69
  go_wp2_with fail
  generalize hfe : w.heap.size = f at *
  generalize w.alloc (.cells #[.int .i64 0, .int .i64 0, .int .i64 0, .int .i64 0, .int .i64 0, .int .i64 0, .int .i64 0, .int .i64 0, .int .i64 0, .int .i64 0, .int .i64 0, .slice none 0 0, .slice none 0 0, .slice none 0 0] 52) = w0 at *
  refine (from_any A n c bs _ (by exact HI0.out) hn).mono ?_
  rintro en w1 ⟨p, g, rfl, hp, hgr, hr1, hO1⟩
  have hpf : p ≠ f := by omega
  have hgf : g ≠ f := by omega
  have hlp := hr1.lp
  have hlg := hr1.lg
  have hX := Own.new w1 #[.pointer (some ⟨p, 0, none⟩)] 161
  have HD0 : Hid (DecG w (w1.alloc (.cells #[.pointer (some ⟨p, 0, none⟩)] 161)) p g f w1.heap.size 0 bs [.int .i64 0, .int .i64 0, .int .i64 0, .int .i64 0, .int .i64 0, .int .i64 0, .int .i64 0, .int .i64 0, .int .i64 0, .int .i64 0, .int .i64 0, .slice none 0 0, .slice none 0 0, .slice none 0 0]) := Lib.hid ⟨hr1.alloc _, (hB0.keep0 hO1).alloc _, hX.cell 0 (by simp), (hO0.trans' hO1).alloc _, hpf, hgf, by omega, by have := (hB0.keep0 hO1).lt; omega, by have := hO0.size; omega, by omega⟩
  clear hr1 hO1 hX hB0 hO0 hlp hlg HI0 hfl
  go_upto_region 4 with (fail)
  generalize hrb : w1.heap.size = rb at *
  generalize w1.alloc (.cells #[.pointer (some ⟨p, 0, none⟩)] 161) = v0 at *
  clear hrb hp hgr
  have y0 := HD0.out.rd
  have hyl := lt_of_cell y0
  go_wp2_with fail
  refine (take_all p g 0 bs 2 _ (by exact HD0.out.row)).mono ?_
  rintro en v1 ⟨At, ct, rfl, _, _, hr, hO⟩
  have HD1 : Hid (DecG w v1 p g f rb (rgK0 bs) bs [.int .i64 0, .int .i64 0, .int .i64 0, .int .i64 0, .int .i64 0, .int .i64 0, .int .i64 0, .int .i64 0, .int .i64 0, .int .i64 0, .int .i64 0, .slice none 0 0, .slice none 0 0, .slice none 0 0]) := Lib.hid (HD0.out.got hr hO)
  clear hr hO HD0 y0 hyl
  have HDs5 := Lib.hid HD1.out.drew
  go_wp2_with fail
  refine wp_region_held_drew (S := (fun w' => w'.cell? ⟨rb, 0, none⟩ = some (.pointer (some ⟨p, 0, none⟩)))) (by kernel_rfl) HDs5.out.rd (fun hSw0 => ?_)
  refine wpAnyH_take (i := 0) (oi := ⟨some 18, _, _, _, _, _⟩) (v := ?_) rfl (by kernel_rfl) (by kernel_rfl) (by kernel_rfl) (fun _ _ _ h => h) (Or.inl ⟨by rfl, ?_⟩) (by assumption) ?_
  rotate_left
  · intro w hSw
    (try dsimp only at hSw)
    go_simp
    all_goals (try with_reducible rfl)
  (try simp only [Act.put, List.setIfInBounds_toArray, List.set_cons_zero, List.set_cons_succ])
  refine wpAnyH_take (i := 2) (oi := ⟨some 20, _, _, _, _, _⟩) (v := ?_) rfl (by kernel_rfl) (by kernel_rfl) (by kernel_rfl) (fun _ _ _ h => h) (Or.inl ⟨by rfl, ?_⟩) (by assumption) ?_
  rotate_left
  · intro w hSw
    (try dsimp only at hSw)
    go_simp
    all_goals (try with_reducible rfl)
  (try simp only [Act.put, List.setIfInBounds_toArray, List.set_cons_zero, List.set_cons_succ])
  refine wpAnyH_ready (rs := [1]) (by kernel_rfl) (by simp) ?_
  refine AllReadyH.cons (o := ⟨some 19, _, _, _, _, _⟩) rfl (fun K hK => ?_) AllReadyH.nil
  go_simp
  refine (reader_one_any p g (rgK0 bs) bs 4 _ (by exact HDs5.out.row)).mono ?_
  rintro en v2 ⟨rfl, hr, hO⟩
  rw [HV0.out]
  have HD2 : Hid (DecG w v2 p g f rb (rgK1 bs) bs [.int .i64 0, .int .i64 0, .int .i64 0, .int .i64 0, .int .i64 0, .int .i64 0, .int .i64 0, .int .i64 0, .int .i64 0, .int .i64 0, .int .i64 0, .slice none 0 0, .slice none 0 0, .slice none 0 0]) := Lib.hid (HDs5.out.got hr hO)
  clear hr hO HDs5
  refine hK.out _ _ HD2.out.rd (fun hSn => ?_)
  clear hK K hSw0
  have hSw0 := hSn
  clear hSn
  (try simp only [Act.put, List.setIfInBounds_toArray, List.set_cons_zero, List.set_cons_succ])
  refine wpAnyH_take (i := 4) (oi := ⟨some 22, _, _, _, _, _⟩) (v := ?_) rfl (by kernel_rfl) (by kernel_rfl) (by kernel_rfl) (fun _ _ _ h => h) (Or.inl ⟨by rfl, ?_⟩) (by assumption) ?_
  rotate_left
  · intro w hSw
    (try dsimp only at hSw)
    go_simp
    all_goals (try with_reducible rfl)
  (try simp only [Act.put, List.setIfInBounds_toArray, List.set_cons_zero, List.set_cons_succ])
  refine wpAnyH_ready (rs := [3]) (by kernel_rfl) (by simp) ?_
  refine AllReadyH.cons (o := ⟨some 21, _, _, _, _, _⟩) rfl (fun K hK => ?_) AllReadyH.nil
  go_simp
  refine (reader_one_any p g (rgK1 bs) bs 4 _ (by exact HD2.out.row)).mono ?_
  rintro en v3 ⟨rfl, hr, hO⟩
  rw [HV1.out]
  have HD3 : Hid (DecG w v3 p g f rb (rgK2 bs) bs [.int .i64 0, .int .i64 0, .int .i64 0, .int .i64 0, .int .i64 0, .int .i64 0, .int .i64 0, .int .i64 0, .int .i64 0, .int .i64 0, .int .i64 0, .slice none 0 0, .slice none 0 0, .slice none 0 0]) := Lib.hid (HD2.out.got hr hO)
  clear hr hO HD2
  refine hK.out _ _ HD3.out.rd (fun hSn => ?_)
  clear hK K hSw0
  have hSw0 := hSn
  clear hSn
  (try simp only [Act.put, List.setIfInBounds_toArray, List.set_cons_zero, List.set_cons_succ])
  refine wpAnyH_ready (rs := [5]) (by kernel_rfl) (by simp) ?_
  refine AllReadyH.cons (o := ⟨none, _, _, _, _, _⟩) rfl (fun K hK => ?_) AllReadyH.nil
  have bq := HD3.out.box.cell 0 (by simp)
  simp only [List.getElem_cons_zero, List.getElem_cons_succ] at bq
  have fq := HD3.out.box.frozen 0
  have lq := HD3.out.box.lt
  go_simp
  have hdp := HD3.out.put 0 (.int .i64 x0)
  simp only [List.set_cons_zero, List.set_cons_succ] at hdp
  have HD4 := Lib.hid hdp
  clear hdp bq fq lq HD3
  refine hK.out _ _ HD4.out.rd (fun hSn => ?_)
  clear hK K hSw0
  have hSw0 := hSn
  clear hSn
  (try simp only [Act.put, List.setIfInBounds_toArray, List.set_cons_zero, List.set_cons_succ])
  refine wpAnyH_take (i := 6) (oi := ⟨some 23, _, _, _, _, _⟩) (v := ?_) rfl (by kernel_rfl) (by kernel_rfl) (by kernel_rfl) (fun _ _ _ h => h) (Or.inl ⟨by rfl, ?_⟩) (by assumption) ?_
  rotate_left
  · intro w hSw
    (try dsimp only at hSw)
    go_simp
    all_goals (try with_reducible rfl)
  (try simp only [Act.put, List.setIfInBounds_toArray, List.set_cons_zero, List.set_cons_succ])
  refine wpAnyH_ready (rs := [7]) (by kernel_rfl) (by simp) ?_
  refine AllReadyH.cons (o := ⟨none, _, _, _, _, _⟩) rfl (fun K hK => ?_) AllReadyH.nil
  have bq := HD4.out.box.cell 1 (by simp)
  simp only [List.getElem_cons_zero, List.getElem_cons_succ] at bq
  have fq := HD4.out.box.frozen 1
  have lq := HD4.out.box.lt
  go_simp
  have hdp := HD4.out.put 1 (.int .i64 x1)
  simp only [List.set_cons_zero, List.set_cons_succ] at hdp
  have HD5 := Lib.hid hdp
  clear hdp bq fq lq HD4
  refine hK.out _ _ HD5.out.rd (fun hSn => ?_)
  clear hK K hSw0
  have hSw0 := hSn
  clear hSn
  (try simp only [Act.put, List.setIfInBounds_toArray, List.set_cons_zero, List.set_cons_succ])
  refine wpAnyH_done (by kernel_rfl) ?_ _
  clear hSw0
  have y0 := HD5.out.rd
  have hyl := lt_of_cell y0
  go_wp2_with fail
  refine (reader_one_any p g (rgK2 bs) bs 1 _ (by exact HD5.out.row)).mono ?_
  rintro en v6 ⟨rfl, hr, hO⟩
  rw [HV2.out]
  have HD6 : Hid (DecG w v6 p g f rb (rgK3 bs) bs [.int .i64 x0, .int .i64 x1, .int .i64 0, .int .i64 0, .int .i64 0, .int .i64 0, .int .i64 0, .int .i64 0, .int .i64 0, .int .i64 0, .int .i64 0, .slice none 0 0, .slice none 0 0, .slice none 0 0]) := Lib.hid (HD5.out.got hr hO)
  clear hr hO HD5 y0 hyl
  have bq := HD6.out.box.cell 2 (by simp)
  simp only [List.getElem_cons_zero, List.getElem_cons_succ] at bq
  have fq := HD6.out.box.frozen 2
  have lq := HD6.out.box.lt
  have hdp := HD6.out.put 2 (.int .i64 x2)
  simp only [List.set_cons_zero, List.set_cons_succ] at hdp
  have HD7 := Lib.hid hdp
  go_upto_region 7 with (fail)
  clear hdp bq fq lq HD6
  have HDs7 := Lib.hid HD7.out.drew
  go_wp2_with fail
  refine wp_region_held_drew (S := (fun w' => w'.cell? ⟨rb, 0, none⟩ = some (.pointer (some ⟨p, 0, none⟩)))) (by kernel_rfl) HDs7.out.rd (fun hSw0 => ?_)
  refine wpAnyH_take (i := 0) (oi := ⟨some 27, _, _, _, _, _⟩) (v := ?_) rfl (by kernel_rfl) (by kernel_rfl) (by kernel_rfl) (fun _ _ _ h => h) (Or.inl ⟨by rfl, ?_⟩) (by assumption) ?_
  rotate_left
  · intro w hSw
    (try dsimp only at hSw)
    go_simp
    all_goals (try with_reducible rfl)
  (try simp only [Act.put, List.setIfInBounds_toArray, List.set_cons_zero, List.set_cons_succ])
  refine wpAnyH_take (i := 2) (oi := ⟨some 29, _, _, _, _, _⟩) (v := ?_) rfl (by kernel_rfl) (by kernel_rfl) (by kernel_rfl) (fun _ _ _ h => h) (Or.inl ⟨by rfl, ?_⟩) (by assumption) ?_
  rotate_left
  · intro w hSw
    (try dsimp only at hSw)
    go_simp
    all_goals (try with_reducible rfl)
  (try simp only [Act.put, List.setIfInBounds_toArray, List.set_cons_zero, List.set_cons_succ])
  refine wpAnyH_take (i := 4) (oi := ⟨some 31, _, _, _, _, _⟩) (v := ?_) rfl (by kernel_rfl) (by kernel_rfl) (by kernel_rfl) (fun _ _ _ h => h) (Or.inl ⟨by rfl, ?_⟩) (by assumption) ?_
  rotate_left
  · intro w hSw
    (try dsimp only at hSw)
    go_simp
    all_goals (try with_reducible rfl)
  (try simp only [Act.put, List.setIfInBounds_toArray, List.set_cons_zero, List.set_cons_succ])
  refine wpAnyH_ready (rs := [1]) (by kernel_rfl) (by simp) ?_
  refine AllReadyH.cons (o := ⟨some 28, _, _, _, _, _⟩) rfl (fun K hK => ?_) AllReadyH.nil
  go_simp
  refine (reader_one_any p g (rgK3 bs) bs 4 _ (by exact HDs7.out.row)).mono ?_
  rintro en v8 ⟨rfl, hr, hO⟩
  rw [HV3.out]
  have HD8 : Hid (DecG w v8 p g f rb (rgK4 bs) bs [.int .i64 x0, .int .i64 x1, .int .i64 x2, .int .i64 0, .int .i64 0, .int .i64 0, .int .i64 0, .int .i64 0, .int .i64 0, .int .i64 0, .int .i64 0, .slice none 0 0, .slice none 0 0, .slice none 0 0]) := Lib.hid (HDs7.out.got hr hO)
  clear hr hO HDs7
  refine hK.out _ _ HD8.out.rd (fun hSn => ?_)
  clear hK K hSw0
  have hSw0 := hSn
  clear hSn
  (try simp only [Act.put, List.setIfInBounds_toArray, List.set_cons_zero, List.set_cons_succ])
  refine wpAnyH_take (i := 6) (oi := ⟨some 33, _, _, _, _, _⟩) (v := ?_) rfl (by kernel_rfl) (by kernel_rfl) (by kernel_rfl) (fun _ _ _ h => h) (Or.inl ⟨by rfl, ?_⟩) (by assumption) ?_
  rotate_left
  · intro w hSw
    (try dsimp only at hSw)
    go_simp
    all_goals (try with_reducible rfl)
  (try simp only [Act.put, List.setIfInBounds_toArray, List.set_cons_zero, List.set_cons_succ])
  refine wpAnyH_ready (rs := [3]) (by kernel_rfl) (by simp) ?_
  refine AllReadyH.cons (o := ⟨some 30, _, _, _, _, _⟩) rfl (fun K hK => ?_) AllReadyH.nil
  go_simp
  refine (reader_one_any p g (rgK4 bs) bs 4 _ (by exact HD8.out.row)).mono ?_
  rintro en v9 ⟨rfl, hr, hO⟩
  rw [HV4.out]
  have HD9 : Hid (DecG w v9 p g f rb (rgK5 bs) bs [.int .i64 x0, .int .i64 x1, .int .i64 x2, .int .i64 0, .int .i64 0, .int .i64 0, .int .i64 0, .int .i64 0, .int .i64 0, .int .i64 0, .int .i64 0, .slice none 0 0, .slice none 0 0, .slice none 0 0]) := Lib.hid (HD8.out.got hr hO)
  clear hr hO HD8
  refine hK.out _ _ HD9.out.rd (fun hSn => ?_)
  clear hK K hSw0
  have hSw0 := hSn
  clear hSn
  (try simp only [Act.put, List.setIfInBounds_toArray, List.set_cons_zero, List.set_cons_succ])
  refine wpAnyH_ready (rs := [5]) (by kernel_rfl) (by simp) ?_
  refine AllReadyH.cons (o := ⟨some 32, _, _, _, _, _⟩) rfl (fun K hK => ?_) AllReadyH.nil
  go_simp
  refine (reader_one_any p g (rgK5 bs) bs 4 _ (by exact HD9.out.row)).mono ?_
  rintro en v10 ⟨rfl, hr, hO⟩
  rw [HV5.out]
  have HD10 : Hid (DecG w v10 p g f rb (rgK6 bs) bs [.int .i64 x0, .int .i64 x1, .int .i64 x2, .int .i64 0, .int .i64 0, .int .i64 0, .int .i64 0, .int .i64 0, .int .i64 0, .int .i64 0, .int .i64 0, .slice none 0 0, .slice none 0 0, .slice none 0 0]) := Lib.hid (HD9.out.got hr hO)
  clear hr hO HD9
  refine hK.out _ _ HD10.out.rd (fun hSn => ?_)
  clear hK K hSw0
  have hSw0 := hSn
  clear hSn
  (try simp only [Act.put, List.setIfInBounds_toArray, List.set_cons_zero, List.set_cons_succ])
  refine wpAnyH_ready (rs := [7]) (by kernel_rfl) (by simp) ?_
  refine AllReadyH.cons (o := ⟨none, _, _, _, _, _⟩) rfl (fun K hK => ?_) AllReadyH.nil
  have bq := HD10.out.box.cell 3 (by simp)
  simp only [List.getElem_cons_zero, List.getElem_cons_succ] at bq
  have fq := HD10.out.box.frozen 3
  have lq := HD10.out.box.lt
  go_simp
  have hdp := HD10.out.put 3 (.int .i64 x3)
  simp only [List.set_cons_zero, List.set_cons_succ] at hdp
  have HD11 := Lib.hid hdp
  clear hdp bq fq lq HD10
  refine hK.out _ _ HD11.out.rd (fun hSn => ?_)
  clear hK K hSw0
  have hSw0 := hSn
  clear hSn
  (try simp only [Act.put, List.setIfInBounds_toArray, List.set_cons_zero, List.set_cons_succ])
  refine wpAnyH_take (i := 8) (oi := ⟨some 34, _, _, _, _, _⟩) (v := ?_) rfl (by kernel_rfl) (by kernel_rfl) (by kernel_rfl) (fun _ _ _ h => h) (Or.inl ⟨by rfl, ?_⟩) (by assumption) ?_
  rotate_left
  · intro w hSw
    (try dsimp only at hSw)
    go_simp
    all_goals (try with_reducible rfl)
  (try simp only [Act.put, List.setIfInBounds_toArray, List.set_cons_zero, List.set_cons_succ])
  refine wpAnyH_ready (rs := [9]) (by kernel_rfl) (by simp) ?_
  refine AllReadyH.cons (o := ⟨none, _, _, _, _, _⟩) rfl (fun K hK => ?_) AllReadyH.nil
  have bq := HD11.out.box.cell 4 (by simp)
  simp only [List.getElem_cons_zero, List.getElem_cons_succ] at bq
  have fq := HD11.out.box.frozen 4
  have lq := HD11.out.box.lt
  go_simp
  have hdp := HD11.out.put 4 (.int .i64 x4)
  simp only [List.set_cons_zero, List.set_cons_succ] at hdp
  have HD12 := Lib.hid hdp
  clear hdp bq fq lq HD11
  refine hK.out _ _ HD12.out.rd (fun hSn => ?_)
  clear hK K hSw0
  have hSw0 := hSn
  clear hSn
  (try simp only [Act.put, List.setIfInBounds_toArray, List.set_cons_zero, List.set_cons_succ])
  refine wpAnyH_take (i := 10) (oi := ⟨some 35, _, _, _, _, _⟩) (v := ?_) rfl (by kernel_rfl) (by kernel_rfl) (by kernel_rfl) (fun _ _ _ h => h) (Or.inl ⟨by rfl, ?_⟩) (by assumption) ?_
  rotate_left
  · intro w hSw
    (try dsimp only at hSw)
    go_simp
    all_goals (try with_reducible rfl)
  (try simp only [Act.put, List.setIfInBounds_toArray, List.set_cons_zero, List.set_cons_succ])
  refine wpAnyH_ready (rs := [11]) (by kernel_rfl) (by simp) ?_
  refine AllReadyH.cons (o := ⟨none, _, _, _, _, _⟩) rfl (fun K hK => ?_) AllReadyH.nil
  have bq := HD12.out.box.cell 5 (by simp)
  simp only [List.getElem_cons_zero, List.getElem_cons_succ] at bq
  have fq := HD12.out.box.frozen 5
  have lq := HD12.out.box.lt
  go_simp
  have hdp := HD12.out.put 5 (.int .i64 x5)
  simp only [List.set_cons_zero, List.set_cons_succ] at hdp
  have HD13 := Lib.hid hdp
  clear hdp bq fq lq HD12
  refine hK.out _ _ HD13.out.rd (fun hSn => ?_)
  clear hK K hSw0
  have hSw0 := hSn
  clear hSn
  (try simp only [Act.put, List.setIfInBounds_toArray, List.set_cons_zero, List.set_cons_succ])
  refine wpAnyH_done (by kernel_rfl) ?_ _
  clear hSw0
  have HDs8 := Lib.hid HD13.out.drew
  go_wp2_with fail
  refine wp_region_held_drew (S := (fun w' => w'.cell? ⟨rb, 0, none⟩ = some (.pointer (some ⟨p, 0, none⟩)))) (by kernel_rfl) HDs8.out.rd (fun hSw0 => ?_)
  refine wpAnyH_take (i := 0) (oi := ⟨some 36, _, _, _, _, _⟩) (v := ?_) rfl (by kernel_rfl) (by kernel_rfl) (by kernel_rfl) (fun _ _ _ h => h) (Or.inl ⟨by rfl, ?_⟩) (by assumption) ?_
  rotate_left
  · intro w hSw
    (try dsimp only at hSw)
    go_simp
    all_goals (try with_reducible rfl)
  (try simp only [Act.put, List.setIfInBounds_toArray, List.set_cons_zero, List.set_cons_succ])
  refine wpAnyH_take (i := 2) (oi := ⟨some 38, _, _, _, _, _⟩) (v := ?_) rfl (by kernel_rfl) (by kernel_rfl) (by kernel_rfl) (fun _ _ _ h => h) (Or.inl ⟨by rfl, ?_⟩) (by assumption) ?_
  rotate_left
  · intro w hSw
    (try dsimp only at hSw)
    go_simp
    all_goals (try with_reducible rfl)
  (try simp only [Act.put, List.setIfInBounds_toArray, List.set_cons_zero, List.set_cons_succ])
  refine wpAnyH_ready (rs := [1]) (by kernel_rfl) (by simp) ?_
  refine AllReadyH.cons (o := ⟨some 37, _, _, _, _, _⟩) rfl (fun K hK => ?_) AllReadyH.nil
  go_simp
  refine (reader_one_any p g (rgK6 bs) bs 1 _ (by exact HDs8.out.row)).mono ?_
  rintro en v14 ⟨rfl, hr, hO⟩
  rw [HV6.out]
  have HD14 : Hid (DecG w v14 p g f rb (rgK7 bs) bs [.int .i64 x0, .int .i64 x1, .int .i64 x2, .int .i64 x3, .int .i64 x4, .int .i64 x5, .int .i64 0, .int .i64 0, .int .i64 0, .int .i64 0, .int .i64 0, .slice none 0 0, .slice none 0 0, .slice none 0 0]) := Lib.hid (HDs8.out.got hr hO)
  clear hr hO HDs8
  refine hK.out _ _ HD14.out.rd (fun hSn => ?_)
  clear hK K hSw0
  have hSw0 := hSn
  clear hSn
  (try simp only [Act.put, List.setIfInBounds_toArray, List.set_cons_zero, List.set_cons_succ])
  refine wpAnyH_take (i := 4) (oi := ⟨some 40, _, _, _, _, _⟩) (v := ?_) rfl (by kernel_rfl) (by kernel_rfl) (by kernel_rfl) (fun _ _ _ h => h) (Or.inl ⟨by rfl, ?_⟩) (by assumption) ?_
  rotate_left
  · intro w hSw
    (try dsimp only at hSw)
    go_simp
    all_goals (try with_reducible rfl)
  (try simp only [Act.put, List.setIfInBounds_toArray, List.set_cons_zero, List.set_cons_succ])
  refine wpAnyH_take (i := 5) (oi := ⟨some 41, _, _, _, _, _⟩) (v := ?_) rfl (by kernel_rfl) (by kernel_rfl) (by kernel_rfl) (fun _ _ _ h => h) (Or.inl ⟨by rfl, ?_⟩) (by assumption) ?_
  rotate_left
  · intro w hSw
    (try dsimp only at hSw)
    go_simp
    all_goals (try with_reducible rfl)
  (try simp only [Act.put, List.setIfInBounds_toArray, List.set_cons_zero, List.set_cons_succ])
  refine wpAnyH_ready (rs := [3]) (by kernel_rfl) (by simp) ?_
  refine AllReadyH.cons (o := ⟨some 39, _, _, _, _, _⟩) rfl (fun K hK => ?_) AllReadyH.nil
  go_simp
  refine (reader_one_any p g (rgK7 bs) bs 1 _ (by exact HD14.out.row)).mono ?_
  rintro en v15 ⟨rfl, hr, hO⟩
  rw [HV7.out]
  have HD15 : Hid (DecG w v15 p g f rb (rgK8 bs) bs [.int .i64 x0, .int .i64 x1, .int .i64 x2, .int .i64 x3, .int .i64 x4, .int .i64 x5, .int .i64 0, .int .i64 0, .int .i64 0, .int .i64 0, .int .i64 0, .slice none 0 0, .slice none 0 0, .slice none 0 0]) := Lib.hid (HD14.out.got hr hO)
  clear hr hO HD14
  refine hK.out _ _ HD15.out.rd (fun hSn => ?_)
  clear hK K hSw0
  have hSw0 := hSn
  clear hSn
  (try simp only [Act.put, List.setIfInBounds_toArray, List.set_cons_zero, List.set_cons_succ])
  refine wpAnyH_ready (rs := [6]) (by kernel_rfl) (by simp) ?_
  refine AllReadyH.cons (o := ⟨none, _, _, _, _, _⟩) rfl (fun K hK => ?_) AllReadyH.nil
  have bq := HD15.out.box.cell 6 (by simp)
  simp only [List.getElem_cons_zero, List.getElem_cons_succ] at bq
  have fq := HD15.out.box.frozen 6
  have lq := HD15.out.box.lt
  go_simp
  have hdp := HD15.out.put 6 (.int .i64 x6)
  simp only [List.set_cons_zero, List.set_cons_succ] at hdp
  have HD16 := Lib.hid hdp
  clear hdp bq fq lq HD15
  refine hK.out _ _ HD16.out.rd (fun hSn => ?_)
  clear hK K hSw0
  have hSw0 := hSn
  clear hSn
  (try simp only [Act.put, List.setIfInBounds_toArray, List.set_cons_zero, List.set_cons_succ])
  refine wpAnyH_take (i := 7) (oi := ⟨some 42, _, _, _, _, _⟩) (v := ?_) rfl (by kernel_rfl) (by kernel_rfl) (by kernel_rfl) (fun _ _ _ h => h) (Or.inl ⟨by rfl, ?_⟩) (by assumption) ?_
  rotate_left
  · intro w hSw
    (try dsimp only at hSw)
    go_simp
    all_goals (try with_reducible rfl)
  (try simp only [Act.put, List.setIfInBounds_toArray, List.set_cons_zero, List.set_cons_succ])
  refine wpAnyH_take (i := 8) (oi := ⟨some 43, _, _, _, _, _⟩) (v := ?_) rfl (by kernel_rfl) (by kernel_rfl) (by kernel_rfl) (fun _ _ _ h => h) (Or.inl ⟨by rfl, ?_⟩) (by assumption) ?_
  rotate_left
  · intro w hSw
    (try dsimp only at hSw)
    go_simp
    all_goals (try with_reducible rfl)
  (try simp only [Act.put, List.setIfInBounds_toArray, List.set_cons_zero, List.set_cons_succ])
  refine wpAnyH_ready (rs := [9]) (by kernel_rfl) (by simp) ?_
  refine AllReadyH.cons (o := ⟨none, _, _, _, _, _⟩) rfl (fun K hK => ?_) AllReadyH.nil
  have bq := HD16.out.box.cell 7 (by simp)
  simp only [List.getElem_cons_zero, List.getElem_cons_succ] at bq
  have fq := HD16.out.box.frozen 7
  have lq := HD16.out.box.lt
  go_simp
  have hdp := HD16.out.put 7 (.int .i64 x7)
  simp only [List.set_cons_zero, List.set_cons_succ] at hdp
  have HD17 := Lib.hid hdp
  clear hdp bq fq lq HD16
  refine hK.out _ _ HD17.out.rd (fun hSn => ?_)
  clear hK K hSw0
  have hSw0 := hSn
  clear hSn
  (try simp only [Act.put, List.setIfInBounds_toArray, List.set_cons_zero, List.set_cons_succ])
  refine wpAnyH_done (by kernel_rfl) ?_ _
  clear hSw0
  have HDs9 := Lib.hid HD17.out.drew
  go_wp2_with fail
  refine wp_region_held_drew (S := (fun w' => w'.cell? ⟨rb, 0, none⟩ = some (.pointer (some ⟨p, 0, none⟩)))) (by kernel_rfl) HDs9.out.rd (fun hSw0 => ?_)
  refine wpAnyH_take (i := 0) (oi := ⟨some 44, _, _, _, _, _⟩) (v := ?_) rfl (by kernel_rfl) (by kernel_rfl) (by kernel_rfl) (fun _ _ _ h => h) (Or.inl ⟨by rfl, ?_⟩) (by assumption) ?_
  rotate_left
  · intro w hSw
    (try dsimp only at hSw)
    go_simp
    all_goals (try with_reducible rfl)
  (try simp only [Act.put, List.setIfInBounds_toArray, List.set_cons_zero, List.set_cons_succ])
  refine wpAnyH_take (i := 2) (oi := ⟨some 46, _, _, _, _, _⟩) (v := ?_) rfl (by kernel_rfl) (by kernel_rfl) (by kernel_rfl) (fun _ _ _ h => h) (Or.inl ⟨by rfl, ?_⟩) (by assumption) ?_
  rotate_left
  · intro w hSw
    (try dsimp only at hSw)
    go_simp
    all_goals (try with_reducible rfl)
  (try simp only [Act.put, List.setIfInBounds_toArray, List.set_cons_zero, List.set_cons_succ])
  refine wpAnyH_take (i := 4) (oi := ⟨some 48, _, _, _, _, _⟩) (v := ?_) rfl (by kernel_rfl) (by kernel_rfl) (by kernel_rfl) (fun _ _ _ h => h) (Or.inl ⟨by rfl, ?_⟩) (by assumption) ?_
  rotate_left
  · intro w hSw
    (try dsimp only at hSw)
    go_simp
    all_goals (try with_reducible rfl)
  (try simp only [Act.put, List.setIfInBounds_toArray, List.set_cons_zero, List.set_cons_succ])
  refine wpAnyH_ready (rs := [1]) (by kernel_rfl) (by simp) ?_
  refine AllReadyH.cons (o := ⟨some 45, _, _, _, _, _⟩) rfl (fun K hK => ?_) AllReadyH.nil
  go_simp
  refine (reader_one_any p g (rgK8 bs) bs 4 _ (by exact HDs9.out.row)).mono ?_
  rintro en v18 ⟨rfl, hr, hO⟩
  rw [HV8.out]
  have HD18 : Hid (DecG w v18 p g f rb (rgK9 bs) bs [.int .i64 x0, .int .i64 x1, .int .i64 x2, .int .i64 x3, .int .i64 x4, .int .i64 x5, .int .i64 x6, .int .i64 x7, .int .i64 0, .int .i64 0, .int .i64 0, .slice none 0 0, .slice none 0 0, .slice none 0 0]) := Lib.hid (HDs9.out.got hr hO)
  clear hr hO HDs9
  refine hK.out _ _ HD18.out.rd (fun hSn => ?_)
  clear hK K hSw0
  have hSw0 := hSn
  clear hSn
  (try simp only [Act.put, List.setIfInBounds_toArray, List.set_cons_zero, List.set_cons_succ])
  refine wpAnyH_take (i := 6) (oi := ⟨some 50, _, _, _, _, _⟩) (v := ?_) rfl (by kernel_rfl) (by kernel_rfl) (by kernel_rfl) (fun _ _ _ h => h) (Or.inl ⟨by rfl, ?_⟩) (by assumption) ?_
  rotate_left
  · intro w hSw
    (try dsimp only at hSw)
    go_simp
    all_goals (try with_reducible rfl)
  (try simp only [Act.put, List.setIfInBounds_toArray, List.set_cons_zero, List.set_cons_succ])
  refine wpAnyH_take (i := 7) (oi := ⟨some 51, _, _, _, _, _⟩) (v := ?_) rfl (by kernel_rfl) (by kernel_rfl) (by kernel_rfl) (fun _ _ _ h => h) (Or.inl ⟨by rfl, ?_⟩) (by assumption) ?_
  rotate_left
  · intro w hSw
    (try dsimp only at hSw)
    go_simp
    all_goals (try with_reducible rfl)
  (try simp only [Act.put, List.setIfInBounds_toArray, List.set_cons_zero, List.set_cons_succ])
  refine wpAnyH_ready (rs := [3]) (by kernel_rfl) (by simp) ?_
  refine AllReadyH.cons (o := ⟨some 47, _, _, _, _, _⟩) rfl (fun K hK => ?_) AllReadyH.nil
  go_simp
  refine (reader_one_any p g (rgK9 bs) bs 4 _ (by exact HD18.out.row)).mono ?_
  rintro en v19 ⟨rfl, hr, hO⟩
  rw [HV9.out]
  have HD19 : Hid (DecG w v19 p g f rb (rgK10 bs) bs [.int .i64 x0, .int .i64 x1, .int .i64 x2, .int .i64 x3, .int .i64 x4, .int .i64 x5, .int .i64 x6, .int .i64 x7, .int .i64 0, .int .i64 0, .int .i64 0, .slice none 0 0, .slice none 0 0, .slice none 0 0]) := Lib.hid (HD18.out.got hr hO)
  clear hr hO HD18
  refine hK.out _ _ HD19.out.rd (fun hSn => ?_)
  clear hK K hSw0
  have hSw0 := hSn
  clear hSn
  (try simp only [Act.put, List.setIfInBounds_toArray, List.set_cons_zero, List.set_cons_succ])
  refine wpAnyH_ready (rs := [5]) (by kernel_rfl) (by simp) ?_
  refine AllReadyH.cons (o := ⟨some 49, _, _, _, _, _⟩) rfl (fun K hK => ?_) AllReadyH.nil
  go_simp
  refine (reader_one_any p g (rgK10 bs) bs 4 _ (by exact HD19.out.row)).mono ?_
  rintro en v20 ⟨rfl, hr, hO⟩
  rw [HV10.out]
  have HD20 : Hid (DecG w v20 p g f rb (rgK11 bs) bs [.int .i64 x0, .int .i64 x1, .int .i64 x2, .int .i64 x3, .int .i64 x4, .int .i64 x5, .int .i64 x6, .int .i64 x7, .int .i64 0, .int .i64 0, .int .i64 0, .slice none 0 0, .slice none 0 0, .slice none 0 0]) := Lib.hid (HD19.out.got hr hO)
  clear hr hO HD19
  refine hK.out _ _ HD20.out.rd (fun hSn => ?_)
  clear hK K hSw0
  have hSw0 := hSn
  clear hSn
  (try simp only [Act.put, List.setIfInBounds_toArray, List.set_cons_zero, List.set_cons_succ])
  refine wpAnyH_ready (rs := [8]) (by kernel_rfl) (by simp) ?_
  refine AllReadyH.cons (o := ⟨none, _, _, _, _, _⟩) rfl (fun K hK => ?_) AllReadyH.nil
  have bq := HD20.out.box.cell 8 (by simp)
  simp only [List.getElem_cons_zero, List.getElem_cons_succ] at bq
  have fq := HD20.out.box.frozen 8
  have lq := HD20.out.box.lt
  go_simp
  have hdp := HD20.out.put 8 (.int .i64 x8)
  simp only [List.set_cons_zero, List.set_cons_succ] at hdp
  have HD21 := Lib.hid hdp
  clear hdp bq fq lq HD20
  refine hK.out _ _ HD21.out.rd (fun hSn => ?_)
  clear hK K hSw0
  have hSw0 := hSn
  clear hSn
  (try simp only [Act.put, List.setIfInBounds_toArray, List.set_cons_zero, List.set_cons_succ])
  refine wpAnyH_take (i := 9) (oi := ⟨some 52, _, _, _, _, _⟩) (v := ?_) rfl (by kernel_rfl) (by kernel_rfl) (by kernel_rfl) (fun _ _ _ h => h) (Or.inl ⟨by rfl, ?_⟩) (by assumption) ?_
  rotate_left
  · intro w hSw
    (try dsimp only at hSw)
    go_simp
    all_goals (try with_reducible rfl)
  (try simp only [Act.put, List.setIfInBounds_toArray, List.set_cons_zero, List.set_cons_succ])
  refine wpAnyH_take (i := 10) (oi := ⟨some 53, _, _, _, _, _⟩) (v := ?_) rfl (by kernel_rfl) (by kernel_rfl) (by kernel_rfl) (fun _ _ _ h => h) (Or.inl ⟨by rfl, ?_⟩) (by assumption) ?_
  rotate_left
  · intro w hSw
    (try dsimp only at hSw)
    go_simp
    all_goals (try with_reducible rfl)
  (try simp only [Act.put, List.setIfInBounds_toArray, List.set_cons_zero, List.set_cons_succ])
  refine wpAnyH_ready (rs := [11]) (by kernel_rfl) (by simp) ?_
  refine AllReadyH.cons (o := ⟨none, _, _, _, _, _⟩) rfl (fun K hK => ?_) AllReadyH.nil
  have bq := HD21.out.box.cell 9 (by simp)
  simp only [List.getElem_cons_zero, List.getElem_cons_succ] at bq
  have fq := HD21.out.box.frozen 9
  have lq := HD21.out.box.lt
  go_simp
  have hdp := HD21.out.put 9 (.int .i64 x9)
  simp only [List.set_cons_zero, List.set_cons_succ] at hdp
  have HD22 := Lib.hid hdp
  clear hdp bq fq lq HD21
  refine hK.out _ _ HD22.out.rd (fun hSn => ?_)
  clear hK K hSw0
  have hSw0 := hSn
  clear hSn
  (try simp only [Act.put, List.setIfInBounds_toArray, List.set_cons_zero, List.set_cons_succ])
  refine wpAnyH_take (i := 12) (oi := ⟨some 54, _, _, _, _, _⟩) (v := ?_) rfl (by kernel_rfl) (by kernel_rfl) (by kernel_rfl) (fun _ _ _ h => h) (Or.inl ⟨by rfl, ?_⟩) (by assumption) ?_
  rotate_left
  · intro w hSw
    (try dsimp only at hSw)
    go_simp
    all_goals (try with_reducible rfl)
  (try simp only [Act.put, List.setIfInBounds_toArray, List.set_cons_zero, List.set_cons_succ])
  refine wpAnyH_take (i := 13) (oi := ⟨some 55, _, _, _, _, _⟩) (v := ?_) rfl (by kernel_rfl) (by kernel_rfl) (by kernel_rfl) (fun _ _ _ h => h) (Or.inl ⟨by rfl, ?_⟩) (by assumption) ?_
  rotate_left
  · intro w hSw
    (try dsimp only at hSw)
    go_simp
    all_goals (try with_reducible rfl)
  (try simp only [Act.put, List.setIfInBounds_toArray, List.set_cons_zero, List.set_cons_succ])
  refine wpAnyH_ready (rs := [14]) (by kernel_rfl) (by simp) ?_
  refine AllReadyH.cons (o := ⟨none, _, _, _, _, _⟩) rfl (fun K hK => ?_) AllReadyH.nil
  have bq := HD22.out.box.cell 10 (by simp)
  simp only [List.getElem_cons_zero, List.getElem_cons_succ] at bq
  have fq := HD22.out.box.frozen 10
  have lq := HD22.out.box.lt
  go_simp
  have hdp := HD22.out.put 10 (.int .i64 x10)
  simp only [List.set_cons_zero, List.set_cons_succ] at hdp
  have HD23 := Lib.hid hdp
  clear hdp bq fq lq HD22
  refine hK.out _ _ HD23.out.rd (fun hSn => ?_)
  clear hK K hSw0
  have hSw0 := hSn
  clear hSn
  (try simp only [Act.put, List.setIfInBounds_toArray, List.set_cons_zero, List.set_cons_succ])
  refine wpAnyH_done (by kernel_rfl) ?_ _
  clear hSw0
  have hP60 : pgN b ≤ 60 := by omega
  obtain ⟨P, hPP⟩ : ∃ P, pgN b = P := ⟨_, rfl⟩
  rw [hPP] at hPN hP60
  have HPP := Lib.hid hPP
  have HPG : Hid (∀ W : World, Only [] w W → Calls Try.prog 109 #[.pointer (some ⟨q, 0, none⟩)] W fun en w' => en = .returned (.int .i64 (P : Nat)) ∧ Only [] W w') := Lib.hid fun W hW => by
    have h := geom_pages_any q b (sN : Int) l W (HG.out.keep0 hW) HC.out
    rw [hPN] at h
    exact h
  obtain ⟨ub, hub⟩ : ∃ u, unbits (getN bs (rgK11 bs) 1) P = u := ⟨_, rfl⟩
  obtain ⟨uo, huo⟩ : ∃ u, unbits (getN bs (rgK12 bs) 1) P = u := ⟨_, rfl⟩
  have HUB := Lib.hid hub
  have HUO := Lib.hid huo
  clear hPP hub huo hPN hpg
  have HDs10 := Lib.hid HD23.out.drew
  go_wp2_with fail
  refine wp_region_held_drew (S := (fun w' => w'.cell? ⟨rb, 0, none⟩ = some (.pointer (some ⟨p, 0, none⟩)))) (by kernel_rfl) HDs10.out.rd (fun hSw0 => ?_)
  refine wpAnyH_take (i := 0) (oi := ⟨some 56, _, _, _, _, _⟩) (v := ?_) rfl (by kernel_rfl) (by kernel_rfl) (by kernel_rfl) (fun _ _ _ h => h) (Or.inl ⟨by rfl, ?_⟩) (by assumption) ?_
  rotate_left
  · intro w hSw
    (try dsimp only at hSw)
    go_simp
    all_goals (try with_reducible rfl)
  (try simp only [Act.put, List.setIfInBounds_toArray, List.set_cons_zero, List.set_cons_succ])
  refine wpAnyH_take (i := 1) (oi := ⟨some 57, _, _, _, _, _⟩) (v := ?_) rfl (by kernel_rfl) (by kernel_rfl) (by kernel_rfl) (fun _ _ _ h => h) (Or.inl ⟨by rfl, ?_⟩) (by assumption) ?_
  rotate_left
  · intro w hSw
    (try dsimp only at hSw)
    go_simp
    all_goals (try with_reducible rfl)
  (try simp only [Act.put, List.setIfInBounds_toArray, List.set_cons_zero, List.set_cons_succ])
  refine wpAnyH_take (i := 4) (oi := ⟨some 60, _, _, _, _, _⟩) (v := ?_) rfl (by kernel_rfl) (by kernel_rfl) (by kernel_rfl) (fun _ _ _ h => h) (Or.inl ⟨by rfl, ?_⟩) (by assumption) ?_
  rotate_left
  · intro w hSw
    (try dsimp only at hSw)
    go_simp
    all_goals (try with_reducible rfl)
  (try simp only [Act.put, List.setIfInBounds_toArray, List.set_cons_zero, List.set_cons_succ])
  refine wpAnyH_take (i := 5) (oi := ⟨some 61, _, _, _, _, _⟩) (v := ?_) rfl (by kernel_rfl) (by kernel_rfl) (by kernel_rfl) (fun _ _ _ h => h) (Or.inl ⟨by rfl, ?_⟩) (by assumption) ?_
  rotate_left
  · intro w hSw
    (try dsimp only at hSw)
    go_simp
    all_goals (try with_reducible rfl)
  (try simp only [Act.put, List.setIfInBounds_toArray, List.set_cons_zero, List.set_cons_succ])
  refine wpAnyH_ready (rs := [2]) (by kernel_rfl) (by simp) ?_
  refine AllReadyH.cons (o := ⟨some 58, _, _, _, _, _⟩) rfl (fun K hK => ?_) AllReadyH.nil
  go_simp
  refine (HPG.out _ HDs10.out.only).mono ?_
  rintro en v24 ⟨rfl, hO⟩
  have HD24 := Lib.hid (HDs10.out.keep0 hO)
  clear hO HDs10
  refine hK.out _ _ HD24.out.rd (fun hSn => ?_)
  clear hK K hSw0
  have hSw0 := hSn
  clear hSn
  (try simp only [Act.put, List.setIfInBounds_toArray, List.set_cons_zero, List.set_cons_succ])
  refine wpAnyH_ready (rs := [3]) (by kernel_rfl) (by simp) ?_
  refine AllReadyH.cons (o := ⟨some 59, _, _, _, _, _⟩) rfl (fun K hK => ?_) AllReadyH.nil
  go_simp
  refine (reader_slots_any p g (rgK11 bs) bs P _ (by exact HD24.out.row) hP60).mono ?_
  rintro en v25 ⟨bA, bc, rfl, hins, hfr, hr, hO⟩
  rw [HUB.out] at hins
  have HN0 : Hid (∀ a, bA = some a → a.block ≠ p ∧ a.block ≠ f ∧ a.block ≠ rb ∧ w.heap.size ≤ a.block) := Lib.hid (fun a ha => by have h1 := hfr a ha; have h2 := HD24.out.row.lp; have h3 := HD24.out.box.lt; have h4 := lt_of_cell HD24.out.rd; have h5 := HD24.out.only.size; exact ⟨by omega, by omega, by simp at h4; omega, by omega⟩)
  have HIB0 := Lib.hid hins
  have HD25 : Hid (DecG w v25 p g f rb (rgK12 bs) bs [.int .i64 x0, .int .i64 x1, .int .i64 x2, .int .i64 x3, .int .i64 x4, .int .i64 x5, .int .i64 x6, .int .i64 x7, .int .i64 x8, .int .i64 x9, .int .i64 x10, .slice none 0 0, .slice none 0 0, .slice none 0 0]) := Lib.hid (HD24.out.got hr hO)
  clear hr hO hins hfr HD24
  refine hK.out _ _ HD25.out.rd (fun hSn => ?_)
  clear hK K hSw0
  have hSw0 := hSn
  clear hSn
  (try simp only [Act.put, List.setIfInBounds_toArray, List.set_cons_zero, List.set_cons_succ])
  refine wpAnyH_take (i := 8) (oi := ⟨some 64, _, _, _, _, _⟩) (v := ?_) rfl (by kernel_rfl) (by kernel_rfl) (by kernel_rfl) (fun _ _ _ h => h) (Or.inl ⟨by rfl, ?_⟩) (by assumption) ?_
  rotate_left
  · intro w hSw
    (try dsimp only at hSw)
    go_simp
    all_goals (try with_reducible rfl)
  (try simp only [Act.put, List.setIfInBounds_toArray, List.set_cons_zero, List.set_cons_succ])
  refine wpAnyH_ready (rs := [6]) (by kernel_rfl) (by simp) ?_
  refine AllReadyH.cons (o := ⟨some 62, _, _, _, _, _⟩) rfl (fun K hK => ?_) AllReadyH.nil
  go_simp
  refine (HPG.out _ HD25.out.only).mono ?_
  rintro en v26 ⟨rfl, hO⟩
  have HD26 := Lib.hid (HD25.out.keep0 hO)
  have HIB1 := Lib.hid (HIB0.out.keep0 hO)
  clear HIB0
  clear hO HD25
  refine hK.out _ _ HD26.out.rd (fun hSn => ?_)
  clear hK K hSw0
  have hSw0 := hSn
  clear hSn
  (try simp only [Act.put, List.setIfInBounds_toArray, List.set_cons_zero, List.set_cons_succ])
  refine wpAnyH_ready (rs := [7]) (by kernel_rfl) (by simp) ?_
  refine AllReadyH.cons (o := ⟨some 63, _, _, _, _, _⟩) rfl (fun K hK => ?_) AllReadyH.nil
  go_simp
  refine (reader_slots_any p g (rgK12 bs) bs P _ (by exact HD26.out.row) hP60).mono ?_
  rintro en v27 ⟨oA, oc, rfl, hins, hfr, hr, hO⟩
  rw [HUO.out] at hins
  have HN1 : Hid (∀ a, oA = some a → a.block ≠ p ∧ a.block ≠ f ∧ a.block ≠ rb ∧ w.heap.size ≤ a.block) := Lib.hid (fun a ha => by have h1 := hfr a ha; have h2 := HD26.out.row.lp; have h3 := HD26.out.box.lt; have h4 := lt_of_cell HD26.out.rd; have h5 := HD26.out.only.size; exact ⟨by omega, by omega, by simp at h4; omega, by omega⟩)
  have HIO0 := Lib.hid hins
  have HD27 : Hid (DecG w v27 p g f rb (rgK13 bs) bs [.int .i64 x0, .int .i64 x1, .int .i64 x2, .int .i64 x3, .int .i64 x4, .int .i64 x5, .int .i64 x6, .int .i64 x7, .int .i64 x8, .int .i64 x9, .int .i64 x10, .slice none 0 0, .slice none 0 0, .slice none 0 0]) := Lib.hid (HD26.out.got hr hO)
  have HIB2 := Lib.hid (HIB1.out.keep hO (fun a ha => by simpa using (HN0.out a ha).1))
  clear HIB1
  clear hr hO hins hfr HD26
  refine hK.out _ _ HD27.out.rd (fun hSn => ?_)
  clear hK K hSw0
  have hSw0 := hSn
  clear hSn
  (try simp only [Act.put, List.setIfInBounds_toArray, List.set_cons_zero, List.set_cons_succ])
  refine wpAnyH_ready (rs := [9]) (by kernel_rfl) (by simp) ?_
  refine AllReadyH.cons (o := ⟨none, _, _, _, _, _⟩) rfl (fun K hK => ?_) AllReadyH.nil
  have bq := HD27.out.box.cell 11 (by simp)
  simp only [List.getElem_cons_zero, List.getElem_cons_succ] at bq
  have fq := HD27.out.box.frozen 11
  have lq := HD27.out.box.lt
  go_simp
  have hdp := HD27.out.put 11 (.slice bA P bc)
  simp only [List.set_cons_zero, List.set_cons_succ] at hdp
  have HD28 := Lib.hid hdp
  have HIB3 := Lib.hid (HIB2.out.keep ((Only.refl [f] _).set (p := ⟨f, 11, none⟩) (by simp) (.slice bA P bc)) (fun a ha => by simpa using (HN0.out a ha).2.1))
  have HIO1 := Lib.hid (HIO0.out.keep ((Only.refl [f] _).set (p := ⟨f, 11, none⟩) (by simp) (.slice bA P bc)) (fun a ha => by simpa using (HN1.out a ha).2.1))
  clear HIB2 HIO0
  clear hdp bq fq lq HD27
  refine hK.out _ _ HD28.out.rd (fun hSn => ?_)
  clear hK K hSw0
  have hSw0 := hSn
  clear hSn
  (try simp only [Act.put, List.setIfInBounds_toArray, List.set_cons_zero, List.set_cons_succ])
  refine wpAnyH_take (i := 10) (oi := ⟨some 65, _, _, _, _, _⟩) (v := ?_) rfl (by kernel_rfl) (by kernel_rfl) (by kernel_rfl) (fun _ _ _ h => h) (Or.inl ⟨by rfl, ?_⟩) (by assumption) ?_
  rotate_left
  · intro w hSw
    (try dsimp only at hSw)
    go_simp
    all_goals (try with_reducible rfl)
  (try simp only [Act.put, List.setIfInBounds_toArray, List.set_cons_zero, List.set_cons_succ])
  refine wpAnyH_ready (rs := [11]) (by kernel_rfl) (by simp) ?_
  refine AllReadyH.cons (o := ⟨none, _, _, _, _, _⟩) rfl (fun K hK => ?_) AllReadyH.nil
  have bq := HD28.out.box.cell 12 (by simp)
  simp only [List.getElem_cons_zero, List.getElem_cons_succ] at bq
  have fq := HD28.out.box.frozen 12
  have lq := HD28.out.box.lt
  go_simp
  have hdp := HD28.out.put 12 (.slice oA P oc)
  simp only [List.set_cons_zero, List.set_cons_succ] at hdp
  have HD29 := Lib.hid hdp
  have HIB4 := Lib.hid (HIB3.out.keep ((Only.refl [f] _).set (p := ⟨f, 12, none⟩) (by simp) (.slice oA P oc)) (fun a ha => by simpa using (HN0.out a ha).2.1))
  have HIO2 := Lib.hid (HIO1.out.keep ((Only.refl [f] _).set (p := ⟨f, 12, none⟩) (by simp) (.slice oA P oc)) (fun a ha => by simpa using (HN1.out a ha).2.1))
  clear HIB3 HIO1
  clear hdp bq fq lq HD28
  refine hK.out _ _ HD29.out.rd (fun hSn => ?_)
  clear hK K hSw0
  have hSw0 := hSn
  clear hSn
  (try simp only [Act.put, List.setIfInBounds_toArray, List.set_cons_zero, List.set_cons_succ])
  refine wpAnyH_done (by kernel_rfl) ?_ _
  clear hSw0
  go_wp2_with fail
  refine (geom_config_any q b _ l _ (HG.out.keep0 HD29.out.only)).mono ?_
  rintro en vc ⟨rfl, hO⟩
  have HDc := Lib.hid (HD29.out.keep0 hO)
  have HIBc := Lib.hid (HIB4.out.keep0 hO)
  have HIOc := Lib.hid (HIO2.out.keep0 hO)
  have hfl1 := field_cfg1 b (sN : Int) l
  have hpvc := HDc.out.row.lp
  have hgvc := HDc.out.row.lg
  have hfvc := HDc.out.box.lt
  have hrvc : rb < vc.heap.size := lt_of_cell HDc.out.rd
  have hwvc := HDc.out.only.size
  clear hO HD29 HIB4 HIO2
  go_wp2_with fail
  go_loopg [69] sN (fun r i wr => ∃ (j : Nat) (A4 : Option Addr) (c4 : Nat), j + r = sN ∧ i = .int .i64 j ∧ DecG w wr p g f rb (usPos bs (rgK13 bs) j) bs [.int .i64 x0, .int .i64 x1, .int .i64 x2, .int .i64 x3, .int .i64 x4, .int .i64 x5, .int .i64 x6, .int .i64 x7, .int .i64 x8, .int .i64 x9, .int .i64 x10, .slice bA P bc, .slice oA P oc, .slice A4 j c4] ∧ GathN wr vc.heap.size 120 2 (.slice A4 j c4) j (usV (readUs bs (rgK13 bs) j)) ∧ Ins wr bA P bc ub ∧ Ins wr oA P oc uo)
  case atStart => exact ⟨0, none, 0, by omega, rfl, HDc.out, GathN.nil _ _ _ _ (Nat.le_refl _), HIBc.out, HIOc.out⟩
  obtain ⟨j, A4, c4, hj, rfl, hd, hG4, hib, hio⟩ := hrel
  have HDr := Lib.hid hd
  have HGr := Lib.hid hG4
  have HIBr := Lib.hid hib
  have HIOr := Lib.hid hio
  clear hd hG4 hib hio
  by_cases hlt : j < sN
  · have hlt2 : (j : Int) < (sN : Int) := by omega
    obtain ⟨st, hst⟩ : ∃ x : Int, ((getN bs (usPos bs (rgK13 bs) j) 1 : Nat) : Int) = x := ⟨_, rfl⟩
    obtain ⟨sp, hsp⟩ : ∃ x : Int, ((getN bs (getK bs (usPos bs (rgK13 bs) j) 1) 4 : Nat) : Int) = x := ⟨_, rfl⟩
    have HST := Lib.hid hst
    have HSP := Lib.hid hsp
    clear hst hsp
    have y13 := HDr.out.box.cell 13 (by simp)
    simp only [List.getElem_cons_zero, List.getElem_cons_succ] at y13
    have yrd := HDr.out.rd
    have HDs := Lib.hid HDr.out.drew
    have HGs := Lib.hid (HGr.out.keep0 (Only.refl _ _).drew)
    have HIBs := Lib.hid HIBr.out.drew
    have HIOs := Lib.hid HIOr.out.drew
    have lf := HDr.out.box.lt
    have lrb := lt_of_cell yrd
    dsimp only at lrb
    go_wp2_with fail
    refine wp_region_held_drew (S := (fun w' => w'.cell? ⟨rb, 0, none⟩ = some (.pointer (some ⟨p, 0, none⟩)))) (by kernel_rfl) HDs.out.rd (fun hSw0 => ?_)
    refine wpAnyH_take (i := 0) (oi := ⟨some 71, _, _, _, _, _⟩) (v := ?_) rfl (by kernel_rfl) (by kernel_rfl) (by kernel_rfl) (fun _ _ _ h => h) (Or.inl ⟨by rfl, ?_⟩) (by assumption) ?_
    rotate_left
    · intro w hSw
      (try dsimp only at hSw)
      go_simp
      all_goals (try with_reducible rfl)
    (try simp only [Act.put, List.setIfInBounds_toArray, List.set_cons_zero, List.set_cons_succ])
    refine wpAnyH_take (i := 2) (oi := ⟨some 73, _, _, _, _, _⟩) (v := ?_) rfl (by kernel_rfl) (by kernel_rfl) (by kernel_rfl) (fun _ _ _ h => h) (Or.inl ⟨by rfl, ?_⟩) (by assumption) ?_
    rotate_left
    · intro w hSw
      (try dsimp only at hSw)
      go_simp
      all_goals (try with_reducible rfl)
    (try simp only [Act.put, List.setIfInBounds_toArray, List.set_cons_zero, List.set_cons_succ])
    refine wpAnyH_take (i := 4) (oi := ⟨some 75, _, _, _, _, _⟩) (v := ?_) rfl (by kernel_rfl) (by kernel_rfl) (by kernel_rfl) (fun _ _ _ h => h) (Or.inl ⟨by rfl, ?_⟩) (by assumption) ?_
    rotate_left
    · intro w hSw
      (try dsimp only at hSw)
      go_simp
      all_goals (try with_reducible rfl)
    (try simp only [Act.put, List.setIfInBounds_toArray, List.set_cons_zero, List.set_cons_succ])
    refine wpAnyH_ready (rs := [1, 3]) (by kernel_rfl) (by simp) ?_
    refine AllReadyH.cons (o := ⟨some 72, _, _, _, _, _⟩) rfl (fun K hK => ?_) ?_
    · have yq := HDs.out.box.cell 13 (by simp)
      simp only [List.getElem_cons_zero, List.getElem_cons_succ] at yq
      have lq := HDs.out.box.lt
      go_simp
      clear yq lq
      refine hK.out _ _ HDs.out.rd (fun hSn => ?_)
      clear hK K hSw0
      have hSw0 := hSn
      clear hSn
      (try simp only [Act.put, List.setIfInBounds_toArray, List.set_cons_zero, List.set_cons_succ])
      refine wpAnyH_ready (rs := [3]) (by kernel_rfl) (by simp) ?_
      refine AllReadyH.cons (o := ⟨some 74, _, _, _, _, _⟩) rfl (fun K hK => ?_) AllReadyH.nil
      go_simp
      refine (reader_one_any p g (usPos bs (rgK13 bs) j) bs 1 _ (by exact HDs.out.row)).mono ?_
      rintro en va ⟨rfl, hr, hO⟩
      rw [HST.out]
      have HDa := Lib.hid (HDs.out.got hr hO)
      have HGa := Lib.hid (HGs.out.keep hO (fun k hk => by have := (HGs.out.1.lt k hk).1; simp; omega))
      have HIBa := Lib.hid (HIBs.out.keep hO (fun a ha => by simpa using (HN0.out a ha).1))
      have HIOa := Lib.hid (HIOs.out.keep hO (fun a ha => by simpa using (HN1.out a ha).1))
      clear hr hO
      refine hK.out _ _ HDa.out.rd (fun hSn => ?_)
      clear hK K hSw0
      have hSw0 := hSn
      clear hSn
      (try simp only [Act.put, List.setIfInBounds_toArray, List.set_cons_zero, List.set_cons_succ])
      refine wpAnyH_ready (rs := [5]) (by kernel_rfl) (by simp) ?_
      refine AllReadyH.cons (o := ⟨some 76, _, _, _, _, _⟩) rfl (fun K hK => ?_) AllReadyH.nil
      go_simp
      refine (reader_one_any p g (getK bs (usPos bs (rgK13 bs) j) 1) bs 4 _ (by exact HDa.out.row)).mono ?_
      rintro en vb ⟨rfl, hr, hO⟩
      rw [HSP.out]
      have HDb := Lib.hid (HDa.out.got hr hO)
      have HGb := Lib.hid (HGa.out.keep hO (fun k hk => by have := (HGa.out.1.lt k hk).1; simp; omega))
      have HIBb := Lib.hid (HIBa.out.keep hO (fun a ha => by simpa using (HN0.out a ha).1))
      have HIOb := Lib.hid (HIOa.out.keep hO (fun a ha => by simpa using (HN1.out a ha).1))
      clear hr hO
      refine hK.out _ _ HDb.out.rd (fun hSn => ?_)
      clear hK K hSw0
      have hSw0 := hSn
      clear hSn
      (try simp only [Act.put, List.setIfInBounds_toArray, List.set_cons_zero, List.set_cons_succ])
      refine wpAnyH_take (i := 6) (oi := ⟨some 77, _, _, _, _, _⟩) (v := ?_) rfl (by kernel_rfl) (by kernel_rfl) (by kernel_rfl) (fun _ _ _ h => h) (Or.inl ⟨by rfl, ?_⟩) (by assumption) ?_
      rotate_left
      · intro w hSw
        (try dsimp only at hSw)
        go_simp
        all_goals (try with_reducible rfl)
      (try simp only [Act.put, List.setIfInBounds_toArray, List.set_cons_zero, List.set_cons_succ])
      refine wpAnyH_ready (rs := [7]) (by kernel_rfl) (by simp) ?_
      refine AllReadyH.cons (o := ⟨some 78, _, _, _, _, _⟩) rfl (fun K hK => ?_) AllReadyH.nil
      go_simp
      have HDe := Lib.hid (HDb.out.keep0 ((Only.refl _ _).alloc (.cells #[.int .i64 st, .int .i64 sp] 120)))
      have HGe := Lib.hid (HGb.out.keep0 ((Only.refl _ _).alloc (.cells #[.int .i64 st, .int .i64 sp] 120)))
      have HIBe := Lib.hid (HIBb.out.keep0 ((Only.refl _ _).alloc (.cells #[.int .i64 st, .int .i64 sp] 120)))
      have HIOe := Lib.hid (HIOb.out.keep0 ((Only.refl _ _).alloc (.cells #[.int .i64 st, .int .i64 sp] 120)))
      refine hK.out _ _ HDe.out.rd (fun hSn => ?_)
      clear hK K hSw0
      have hSw0 := hSn
      clear hSn
      (try simp only [Act.put, List.setIfInBounds_toArray, List.set_cons_zero, List.set_cons_succ])
      refine wpAnyH_ready (rs := [8]) (by kernel_rfl) (by simp) ?_
      refine AllReadyH.cons (o := ⟨some 79, _, _, _, _, _⟩) rfl (fun K hK => ?_) AllReadyH.nil
      refine step_append_elems rfl (.tmp 72) (.tmp 78) 50 rfl vc.heap.size 120 i0 _ 2 16 Try.underlying50 hi0 hz0 hz1 hz2 rfl (by decide) (.slice A4 j c4) j (usV (readUs bs (rgK13 bs) j)) rfl (HGe.out.1) ⟨vb.heap.size, 0, none⟩ 1 1 (usV [(st, sp)]) rfl rfl (news_new vb #[.int .i64 st, .int .i64 sp] 120 (by simp [maxLen])) (usV_one _) (by unfold maxLen; omega) (by omega) HGe.out.2 ?_
      intro v' wa hown hgrow _
      have hS : Only ((Value.slice A4 j c4).ownBlock.toList) (vb.alloc (.cells #[.int .i64 st, .int .i64 sp] 120)) wa := (Only.refl _ _).grown hgrow fun q hq => .inl (by rw [hq]; simp)
      have hSb : ∀ q ∈ (Value.slice A4 j c4).ownBlock.toList, vc.heap.size ≤ q := fun q hq => (HGe.out.1.lt q (by simpa using hq)).1
      have HDd := Lib.hid (HDe.out.keep hS (fun h => by have := hSb _ h; omega) (fun h => by have := hSb _ h; omega) (fun h => by have := hSb _ h; omega) (fun h => by have := hSb _ h; omega) (fun i h => by have := hSb _ h; omega))
      have hgd : GathN wa vc.heap.size 120 2 v' (j + 1) (usV (readUs bs (rgK13 bs) (j + 1))) := by
        refine ⟨?_, Nat.le_trans HGe.out.2 hS.size⟩
        have e : usV (readUs bs (rgK13 bs) (j + 1)) = usV (readUs bs (rgK13 bs) j) ++ usV [(st, sp)] := by
          show usV (readUs bs (rgK13 bs) j ++ [(((getN bs (usPos bs (rgK13 bs) j) 1 : Nat) : Int), ((getN bs (getK bs (usPos bs (rgK13 bs) j) 1) 4 : Nat) : Int))]) = _
          rw [HST.out, HSP.out, usV_snoc]
          rfl
        rw [e]
        exact hown
      have HIBd := Lib.hid (HIBe.out.keepP hS (fun hn a ha h => by have := hSb _ h; have := HIBc.out.block_lt hn a ha; omega))
      have HIOd := Lib.hid (HIOe.out.keepP hS (fun hn a ha h => by have := hSb _ h; have := HIOc.out.block_lt hn a ha; omega))
      obtain ⟨A5, c5, rfl, _, _⟩ := hgd.uss (by simp)
      have HGd := Lib.hid hgd
      clear hS hSb hgd hown hgrow
      refine hK.out _ _ HDd.out.rd (fun hSn => ?_)
      clear hK K hSw0
      have hSw0 := hSn
      clear hSn
      (try simp only [Act.put, List.setIfInBounds_toArray, List.set_cons_zero, List.set_cons_succ])
      refine wpAnyH_take (i := 9) (oi := ⟨some 80, _, _, _, _, _⟩) (v := ?_) rfl (by kernel_rfl) (by kernel_rfl) (by kernel_rfl) (fun _ _ _ h => h) (Or.inl ⟨by rfl, ?_⟩) (by assumption) ?_
      rotate_left
      · intro w hSw
        (try dsimp only at hSw)
        go_simp
        all_goals (try with_reducible rfl)
      (try simp only [Act.put, List.setIfInBounds_toArray, List.set_cons_zero, List.set_cons_succ])
      refine wpAnyH_ready (rs := [10]) (by kernel_rfl) (by simp) ?_
      refine AllReadyH.cons (o := ⟨none, _, _, _, _, _⟩) rfl (fun K hK => ?_) AllReadyH.nil
      have yq := HDd.out.box.cell 13 (by simp)
      simp only [List.getElem_cons_zero, List.getElem_cons_succ] at yq
      have lq := HDd.out.box.lt
      have fq := HDd.out.box.frozen 13
      go_simp
      have hdp := HDd.out.put 13 (.slice A5 (j + 1) c5)
      simp only [List.set_cons_zero, List.set_cons_succ] at hdp
      have HDz := Lib.hid hdp
      clear hdp yq lq fq
      refine hK.out _ _ HDz.out.rd (fun hSn => ?_)
      clear hK K hSw0
      have hSw0 := hSn
      clear hSn
      (try simp only [Act.put, List.setIfInBounds_toArray, List.set_cons_zero, List.set_cons_succ])
      refine wpAnyH_done (by kernel_rfl) ?_ _
      clear hSw0
      go_wp2
      go_roundg (gk - 1)
      case measure => omega
      case rel =>
        have hO8 : Only [f] wa (wa.setCell ⟨f, 13, none⟩ (.slice A5 (j + 1) c5)) := (Only.refl _ _).set (by simp) _
        refine ⟨j + 1, A5, c5, by omega, by go_num, HDz.out, HGd.out.keep hO8 (fun k hk => ?_), HIBd.out.keep hO8 (fun a ha => by simpa using (HN0.out a ha).2.1), HIOd.out.keep hO8 (fun a ha => by simpa using (HN1.out a ha).2.1)⟩
        have := (HGd.out.1.lt k hk).1
        simp
        omega
    refine AllReadyH.cons (o := ⟨some 74, _, _, _, _, _⟩) rfl (fun K hK => ?_) ?_
    · go_simp
      refine (reader_one_any p g (usPos bs (rgK13 bs) j) bs 1 _ (by exact HDs.out.row)).mono ?_
      rintro en va ⟨rfl, hr, hO⟩
      rw [HST.out]
      have HDa := Lib.hid (HDs.out.got hr hO)
      have HGa := Lib.hid (HGs.out.keep hO (fun k hk => by have := (HGs.out.1.lt k hk).1; simp; omega))
      have HIBa := Lib.hid (HIBs.out.keep hO (fun a ha => by simpa using (HN0.out a ha).1))
      have HIOa := Lib.hid (HIOs.out.keep hO (fun a ha => by simpa using (HN1.out a ha).1))
      clear hr hO
      refine hK.out _ _ HDa.out.rd (fun hSn => ?_)
      clear hK K hSw0
      have hSw0 := hSn
      clear hSn
      (try simp only [Act.put, List.setIfInBounds_toArray, List.set_cons_zero, List.set_cons_succ])
      refine wpAnyH_ready (rs := [1, 5]) (by kernel_rfl) (by simp) ?_
      refine AllReadyH.cons (o := ⟨some 72, _, _, _, _, _⟩) rfl (fun K hK => ?_) ?_
      · have yq := HDa.out.box.cell 13 (by simp)
        simp only [List.getElem_cons_zero, List.getElem_cons_succ] at yq
        have lq := HDa.out.box.lt
        go_simp
        clear yq lq
        refine hK.out _ _ HDa.out.rd (fun hSn => ?_)
        clear hK K hSw0
        have hSw0 := hSn
        clear hSn
        (try simp only [Act.put, List.setIfInBounds_toArray, List.set_cons_zero, List.set_cons_succ])
        refine wpAnyH_ready (rs := [5]) (by kernel_rfl) (by simp) ?_
        refine AllReadyH.cons (o := ⟨some 76, _, _, _, _, _⟩) rfl (fun K hK => ?_) AllReadyH.nil
        go_simp
        refine (reader_one_any p g (getK bs (usPos bs (rgK13 bs) j) 1) bs 4 _ (by exact HDa.out.row)).mono ?_
        rintro en vb ⟨rfl, hr, hO⟩
        rw [HSP.out]
        have HDb := Lib.hid (HDa.out.got hr hO)
        have HGb := Lib.hid (HGa.out.keep hO (fun k hk => by have := (HGa.out.1.lt k hk).1; simp; omega))
        have HIBb := Lib.hid (HIBa.out.keep hO (fun a ha => by simpa using (HN0.out a ha).1))
        have HIOb := Lib.hid (HIOa.out.keep hO (fun a ha => by simpa using (HN1.out a ha).1))
        clear hr hO
        refine hK.out _ _ HDb.out.rd (fun hSn => ?_)
        clear hK K hSw0
        have hSw0 := hSn
        clear hSn
        (try simp only [Act.put, List.setIfInBounds_toArray, List.set_cons_zero, List.set_cons_succ])
        refine wpAnyH_take (i := 6) (oi := ⟨some 77, _, _, _, _, _⟩) (v := ?_) rfl (by kernel_rfl) (by kernel_rfl) (by kernel_rfl) (fun _ _ _ h => h) (Or.inl ⟨by rfl, ?_⟩) (by assumption) ?_
        rotate_left
        · intro w hSw
          (try dsimp only at hSw)
          go_simp
          all_goals (try with_reducible rfl)
        (try simp only [Act.put, List.setIfInBounds_toArray, List.set_cons_zero, List.set_cons_succ])
        refine wpAnyH_ready (rs := [7]) (by kernel_rfl) (by simp) ?_
        refine AllReadyH.cons (o := ⟨some 78, _, _, _, _, _⟩) rfl (fun K hK => ?_) AllReadyH.nil
        go_simp
        have HDe := Lib.hid (HDb.out.keep0 ((Only.refl _ _).alloc (.cells #[.int .i64 st, .int .i64 sp] 120)))
        have HGe := Lib.hid (HGb.out.keep0 ((Only.refl _ _).alloc (.cells #[.int .i64 st, .int .i64 sp] 120)))
        have HIBe := Lib.hid (HIBb.out.keep0 ((Only.refl _ _).alloc (.cells #[.int .i64 st, .int .i64 sp] 120)))
        have HIOe := Lib.hid (HIOb.out.keep0 ((Only.refl _ _).alloc (.cells #[.int .i64 st, .int .i64 sp] 120)))
        refine hK.out _ _ HDe.out.rd (fun hSn => ?_)
        clear hK K hSw0
        have hSw0 := hSn
        clear hSn
        (try simp only [Act.put, List.setIfInBounds_toArray, List.set_cons_zero, List.set_cons_succ])
        refine wpAnyH_ready (rs := [8]) (by kernel_rfl) (by simp) ?_
        refine AllReadyH.cons (o := ⟨some 79, _, _, _, _, _⟩) rfl (fun K hK => ?_) AllReadyH.nil
        refine step_append_elems rfl (.tmp 72) (.tmp 78) 50 rfl vc.heap.size 120 i0 _ 2 16 Try.underlying50 hi0 hz0 hz1 hz2 rfl (by decide) (.slice A4 j c4) j (usV (readUs bs (rgK13 bs) j)) rfl (HGe.out.1) ⟨vb.heap.size, 0, none⟩ 1 1 (usV [(st, sp)]) rfl rfl (news_new vb #[.int .i64 st, .int .i64 sp] 120 (by simp [maxLen])) (usV_one _) (by unfold maxLen; omega) (by omega) HGe.out.2 ?_
        intro v' wa hown hgrow _
        have hS : Only ((Value.slice A4 j c4).ownBlock.toList) (vb.alloc (.cells #[.int .i64 st, .int .i64 sp] 120)) wa := (Only.refl _ _).grown hgrow fun q hq => .inl (by rw [hq]; simp)
        have hSb : ∀ q ∈ (Value.slice A4 j c4).ownBlock.toList, vc.heap.size ≤ q := fun q hq => (HGe.out.1.lt q (by simpa using hq)).1
        have HDd := Lib.hid (HDe.out.keep hS (fun h => by have := hSb _ h; omega) (fun h => by have := hSb _ h; omega) (fun h => by have := hSb _ h; omega) (fun h => by have := hSb _ h; omega) (fun i h => by have := hSb _ h; omega))
        have hgd : GathN wa vc.heap.size 120 2 v' (j + 1) (usV (readUs bs (rgK13 bs) (j + 1))) := by
          refine ⟨?_, Nat.le_trans HGe.out.2 hS.size⟩
          have e : usV (readUs bs (rgK13 bs) (j + 1)) = usV (readUs bs (rgK13 bs) j) ++ usV [(st, sp)] := by
            show usV (readUs bs (rgK13 bs) j ++ [(((getN bs (usPos bs (rgK13 bs) j) 1 : Nat) : Int), ((getN bs (getK bs (usPos bs (rgK13 bs) j) 1) 4 : Nat) : Int))]) = _
            rw [HST.out, HSP.out, usV_snoc]
            rfl
          rw [e]
          exact hown
        have HIBd := Lib.hid (HIBe.out.keepP hS (fun hn a ha h => by have := hSb _ h; have := HIBc.out.block_lt hn a ha; omega))
        have HIOd := Lib.hid (HIOe.out.keepP hS (fun hn a ha h => by have := hSb _ h; have := HIOc.out.block_lt hn a ha; omega))
        obtain ⟨A5, c5, rfl, _, _⟩ := hgd.uss (by simp)
        have HGd := Lib.hid hgd
        clear hS hSb hgd hown hgrow
        refine hK.out _ _ HDd.out.rd (fun hSn => ?_)
        clear hK K hSw0
        have hSw0 := hSn
        clear hSn
        (try simp only [Act.put, List.setIfInBounds_toArray, List.set_cons_zero, List.set_cons_succ])
        refine wpAnyH_take (i := 9) (oi := ⟨some 80, _, _, _, _, _⟩) (v := ?_) rfl (by kernel_rfl) (by kernel_rfl) (by kernel_rfl) (fun _ _ _ h => h) (Or.inl ⟨by rfl, ?_⟩) (by assumption) ?_
        rotate_left
        · intro w hSw
          (try dsimp only at hSw)
          go_simp
          all_goals (try with_reducible rfl)
        (try simp only [Act.put, List.setIfInBounds_toArray, List.set_cons_zero, List.set_cons_succ])
        refine wpAnyH_ready (rs := [10]) (by kernel_rfl) (by simp) ?_
        refine AllReadyH.cons (o := ⟨none, _, _, _, _, _⟩) rfl (fun K hK => ?_) AllReadyH.nil
        have yq := HDd.out.box.cell 13 (by simp)
        simp only [List.getElem_cons_zero, List.getElem_cons_succ] at yq
        have lq := HDd.out.box.lt
        have fq := HDd.out.box.frozen 13
        go_simp
        have hdp := HDd.out.put 13 (.slice A5 (j + 1) c5)
        simp only [List.set_cons_zero, List.set_cons_succ] at hdp
        have HDz := Lib.hid hdp
        clear hdp yq lq fq
        refine hK.out _ _ HDz.out.rd (fun hSn => ?_)
        clear hK K hSw0
        have hSw0 := hSn
        clear hSn
        (try simp only [Act.put, List.setIfInBounds_toArray, List.set_cons_zero, List.set_cons_succ])
        refine wpAnyH_done (by kernel_rfl) ?_ _
        clear hSw0
        go_wp2
        go_roundg (gk - 1)
        case measure => omega
        case rel =>
          have hO8 : Only [f] wa (wa.setCell ⟨f, 13, none⟩ (.slice A5 (j + 1) c5)) := (Only.refl _ _).set (by simp) _
          refine ⟨j + 1, A5, c5, by omega, by go_num, HDz.out, HGd.out.keep hO8 (fun k hk => ?_), HIBd.out.keep hO8 (fun a ha => by simpa using (HN0.out a ha).2.1), HIOd.out.keep hO8 (fun a ha => by simpa using (HN1.out a ha).2.1)⟩
          have := (HGd.out.1.lt k hk).1
          simp
          omega
      refine AllReadyH.cons (o := ⟨some 76, _, _, _, _, _⟩) rfl (fun K hK => ?_) ?_
      · go_simp
        refine (reader_one_any p g (getK bs (usPos bs (rgK13 bs) j) 1) bs 4 _ (by exact HDa.out.row)).mono ?_
        rintro en vb ⟨rfl, hr, hO⟩
        rw [HSP.out]
        have HDb := Lib.hid (HDa.out.got hr hO)
        have HGb := Lib.hid (HGa.out.keep hO (fun k hk => by have := (HGa.out.1.lt k hk).1; simp; omega))
        have HIBb := Lib.hid (HIBa.out.keep hO (fun a ha => by simpa using (HN0.out a ha).1))
        have HIOb := Lib.hid (HIOa.out.keep hO (fun a ha => by simpa using (HN1.out a ha).1))
        clear hr hO
        refine hK.out _ _ HDb.out.rd (fun hSn => ?_)
        clear hK K hSw0
        have hSw0 := hSn
        clear hSn
        (try simp only [Act.put, List.setIfInBounds_toArray, List.set_cons_zero, List.set_cons_succ])
        refine wpAnyH_take (i := 6) (oi := ⟨some 77, _, _, _, _, _⟩) (v := ?_) rfl (by kernel_rfl) (by kernel_rfl) (by kernel_rfl) (fun _ _ _ h => h) (Or.inl ⟨by rfl, ?_⟩) (by assumption) ?_
        rotate_left
        · intro w hSw
          (try dsimp only at hSw)
          go_simp
          all_goals (try with_reducible rfl)
        (try simp only [Act.put, List.setIfInBounds_toArray, List.set_cons_zero, List.set_cons_succ])
        refine wpAnyH_ready (rs := [1, 7]) (by kernel_rfl) (by simp) ?_
        refine AllReadyH.cons (o := ⟨some 72, _, _, _, _, _⟩) rfl (fun K hK => ?_) ?_
        · have yq := HDb.out.box.cell 13 (by simp)
          simp only [List.getElem_cons_zero, List.getElem_cons_succ] at yq
          have lq := HDb.out.box.lt
          go_simp
          clear yq lq
          refine hK.out _ _ HDb.out.rd (fun hSn => ?_)
          clear hK K hSw0
          have hSw0 := hSn
          clear hSn
          (try simp only [Act.put, List.setIfInBounds_toArray, List.set_cons_zero, List.set_cons_succ])
          refine wpAnyH_ready (rs := [7]) (by kernel_rfl) (by simp) ?_
          refine AllReadyH.cons (o := ⟨some 78, _, _, _, _, _⟩) rfl (fun K hK => ?_) AllReadyH.nil
          go_simp
          have HDe := Lib.hid (HDb.out.keep0 ((Only.refl _ _).alloc (.cells #[.int .i64 st, .int .i64 sp] 120)))
          have HGe := Lib.hid (HGb.out.keep0 ((Only.refl _ _).alloc (.cells #[.int .i64 st, .int .i64 sp] 120)))
          have HIBe := Lib.hid (HIBb.out.keep0 ((Only.refl _ _).alloc (.cells #[.int .i64 st, .int .i64 sp] 120)))
          have HIOe := Lib.hid (HIOb.out.keep0 ((Only.refl _ _).alloc (.cells #[.int .i64 st, .int .i64 sp] 120)))
          refine hK.out _ _ HDe.out.rd (fun hSn => ?_)
          clear hK K hSw0
          have hSw0 := hSn
          clear hSn
          (try simp only [Act.put, List.setIfInBounds_toArray, List.set_cons_zero, List.set_cons_succ])
          refine wpAnyH_ready (rs := [8]) (by kernel_rfl) (by simp) ?_
          refine AllReadyH.cons (o := ⟨some 79, _, _, _, _, _⟩) rfl (fun K hK => ?_) AllReadyH.nil
          refine step_append_elems rfl (.tmp 72) (.tmp 78) 50 rfl vc.heap.size 120 i0 _ 2 16 Try.underlying50 hi0 hz0 hz1 hz2 rfl (by decide) (.slice A4 j c4) j (usV (readUs bs (rgK13 bs) j)) rfl (HGe.out.1) ⟨vb.heap.size, 0, none⟩ 1 1 (usV [(st, sp)]) rfl rfl (news_new vb #[.int .i64 st, .int .i64 sp] 120 (by simp [maxLen])) (usV_one _) (by unfold maxLen; omega) (by omega) HGe.out.2 ?_
          intro v' wa hown hgrow _
          have hS : Only ((Value.slice A4 j c4).ownBlock.toList) (vb.alloc (.cells #[.int .i64 st, .int .i64 sp] 120)) wa := (Only.refl _ _).grown hgrow fun q hq => .inl (by rw [hq]; simp)
          have hSb : ∀ q ∈ (Value.slice A4 j c4).ownBlock.toList, vc.heap.size ≤ q := fun q hq => (HGe.out.1.lt q (by simpa using hq)).1
          have HDd := Lib.hid (HDe.out.keep hS (fun h => by have := hSb _ h; omega) (fun h => by have := hSb _ h; omega) (fun h => by have := hSb _ h; omega) (fun h => by have := hSb _ h; omega) (fun i h => by have := hSb _ h; omega))
          have hgd : GathN wa vc.heap.size 120 2 v' (j + 1) (usV (readUs bs (rgK13 bs) (j + 1))) := by
            refine ⟨?_, Nat.le_trans HGe.out.2 hS.size⟩
            have e : usV (readUs bs (rgK13 bs) (j + 1)) = usV (readUs bs (rgK13 bs) j) ++ usV [(st, sp)] := by
              show usV (readUs bs (rgK13 bs) j ++ [(((getN bs (usPos bs (rgK13 bs) j) 1 : Nat) : Int), ((getN bs (getK bs (usPos bs (rgK13 bs) j) 1) 4 : Nat) : Int))]) = _
              rw [HST.out, HSP.out, usV_snoc]
              rfl
            rw [e]
            exact hown
          have HIBd := Lib.hid (HIBe.out.keepP hS (fun hn a ha h => by have := hSb _ h; have := HIBc.out.block_lt hn a ha; omega))
          have HIOd := Lib.hid (HIOe.out.keepP hS (fun hn a ha h => by have := hSb _ h; have := HIOc.out.block_lt hn a ha; omega))
          obtain ⟨A5, c5, rfl, _, _⟩ := hgd.uss (by simp)
          have HGd := Lib.hid hgd
          clear hS hSb hgd hown hgrow
          refine hK.out _ _ HDd.out.rd (fun hSn => ?_)
          clear hK K hSw0
          have hSw0 := hSn
          clear hSn
          (try simp only [Act.put, List.setIfInBounds_toArray, List.set_cons_zero, List.set_cons_succ])
          refine wpAnyH_take (i := 9) (oi := ⟨some 80, _, _, _, _, _⟩) (v := ?_) rfl (by kernel_rfl) (by kernel_rfl) (by kernel_rfl) (fun _ _ _ h => h) (Or.inl ⟨by rfl, ?_⟩) (by assumption) ?_
          rotate_left
          · intro w hSw
            (try dsimp only at hSw)
            go_simp
            all_goals (try with_reducible rfl)
          (try simp only [Act.put, List.setIfInBounds_toArray, List.set_cons_zero, List.set_cons_succ])
          refine wpAnyH_ready (rs := [10]) (by kernel_rfl) (by simp) ?_
          refine AllReadyH.cons (o := ⟨none, _, _, _, _, _⟩) rfl (fun K hK => ?_) AllReadyH.nil
          have yq := HDd.out.box.cell 13 (by simp)
          simp only [List.getElem_cons_zero, List.getElem_cons_succ] at yq
          have lq := HDd.out.box.lt
          have fq := HDd.out.box.frozen 13
          go_simp
          have hdp := HDd.out.put 13 (.slice A5 (j + 1) c5)
          simp only [List.set_cons_zero, List.set_cons_succ] at hdp
          have HDz := Lib.hid hdp
          clear hdp yq lq fq
          refine hK.out _ _ HDz.out.rd (fun hSn => ?_)
          clear hK K hSw0
          have hSw0 := hSn
          clear hSn
          (try simp only [Act.put, List.setIfInBounds_toArray, List.set_cons_zero, List.set_cons_succ])
          refine wpAnyH_done (by kernel_rfl) ?_ _
          clear hSw0
          go_wp2
          go_roundg (gk - 1)
          case measure => omega
          case rel =>
            have hO8 : Only [f] wa (wa.setCell ⟨f, 13, none⟩ (.slice A5 (j + 1) c5)) := (Only.refl _ _).set (by simp) _
            refine ⟨j + 1, A5, c5, by omega, by go_num, HDz.out, HGd.out.keep hO8 (fun k hk => ?_), HIBd.out.keep hO8 (fun a ha => by simpa using (HN0.out a ha).2.1), HIOd.out.keep hO8 (fun a ha => by simpa using (HN1.out a ha).2.1)⟩
            have := (HGd.out.1.lt k hk).1
            simp
            omega
        refine AllReadyH.cons (o := ⟨some 78, _, _, _, _, _⟩) rfl (fun K hK => ?_) ?_
        · go_simp
          have HDe := Lib.hid (HDb.out.keep0 ((Only.refl _ _).alloc (.cells #[.int .i64 st, .int .i64 sp] 120)))
          have HGe := Lib.hid (HGb.out.keep0 ((Only.refl _ _).alloc (.cells #[.int .i64 st, .int .i64 sp] 120)))
          have HIBe := Lib.hid (HIBb.out.keep0 ((Only.refl _ _).alloc (.cells #[.int .i64 st, .int .i64 sp] 120)))
          have HIOe := Lib.hid (HIOb.out.keep0 ((Only.refl _ _).alloc (.cells #[.int .i64 st, .int .i64 sp] 120)))
          refine hK.out _ _ HDe.out.rd (fun hSn => ?_)
          clear hK K hSw0
          have hSw0 := hSn
          clear hSn
          (try simp only [Act.put, List.setIfInBounds_toArray, List.set_cons_zero, List.set_cons_succ])
          refine wpAnyH_ready (rs := [1]) (by kernel_rfl) (by simp) ?_
          refine AllReadyH.cons (o := ⟨some 72, _, _, _, _, _⟩) rfl (fun K hK => ?_) AllReadyH.nil
          have yq := HDe.out.box.cell 13 (by simp)
          simp only [List.getElem_cons_zero, List.getElem_cons_succ] at yq
          have lq := HDe.out.box.lt
          go_simp
          clear yq lq
          refine hK.out _ _ HDe.out.rd (fun hSn => ?_)
          clear hK K hSw0
          have hSw0 := hSn
          clear hSn
          (try simp only [Act.put, List.setIfInBounds_toArray, List.set_cons_zero, List.set_cons_succ])
          refine wpAnyH_ready (rs := [8]) (by kernel_rfl) (by simp) ?_
          refine AllReadyH.cons (o := ⟨some 79, _, _, _, _, _⟩) rfl (fun K hK => ?_) AllReadyH.nil
          refine step_append_elems rfl (.tmp 72) (.tmp 78) 50 rfl vc.heap.size 120 i0 _ 2 16 Try.underlying50 hi0 hz0 hz1 hz2 rfl (by decide) (.slice A4 j c4) j (usV (readUs bs (rgK13 bs) j)) rfl (HGe.out.1) ⟨vb.heap.size, 0, none⟩ 1 1 (usV [(st, sp)]) rfl rfl (news_new vb #[.int .i64 st, .int .i64 sp] 120 (by simp [maxLen])) (usV_one _) (by unfold maxLen; omega) (by omega) HGe.out.2 ?_
          intro v' wa hown hgrow _
          have hS : Only ((Value.slice A4 j c4).ownBlock.toList) (vb.alloc (.cells #[.int .i64 st, .int .i64 sp] 120)) wa := (Only.refl _ _).grown hgrow fun q hq => .inl (by rw [hq]; simp)
          have hSb : ∀ q ∈ (Value.slice A4 j c4).ownBlock.toList, vc.heap.size ≤ q := fun q hq => (HGe.out.1.lt q (by simpa using hq)).1
          have HDd := Lib.hid (HDe.out.keep hS (fun h => by have := hSb _ h; omega) (fun h => by have := hSb _ h; omega) (fun h => by have := hSb _ h; omega) (fun h => by have := hSb _ h; omega) (fun i h => by have := hSb _ h; omega))
          have hgd : GathN wa vc.heap.size 120 2 v' (j + 1) (usV (readUs bs (rgK13 bs) (j + 1))) := by
            refine ⟨?_, Nat.le_trans HGe.out.2 hS.size⟩
            have e : usV (readUs bs (rgK13 bs) (j + 1)) = usV (readUs bs (rgK13 bs) j) ++ usV [(st, sp)] := by
              show usV (readUs bs (rgK13 bs) j ++ [(((getN bs (usPos bs (rgK13 bs) j) 1 : Nat) : Int), ((getN bs (getK bs (usPos bs (rgK13 bs) j) 1) 4 : Nat) : Int))]) = _
              rw [HST.out, HSP.out, usV_snoc]
              rfl
            rw [e]
            exact hown
          have HIBd := Lib.hid (HIBe.out.keepP hS (fun hn a ha h => by have := hSb _ h; have := HIBc.out.block_lt hn a ha; omega))
          have HIOd := Lib.hid (HIOe.out.keepP hS (fun hn a ha h => by have := hSb _ h; have := HIOc.out.block_lt hn a ha; omega))
          obtain ⟨A5, c5, rfl, _, _⟩ := hgd.uss (by simp)
          have HGd := Lib.hid hgd
          clear hS hSb hgd hown hgrow
          refine hK.out _ _ HDd.out.rd (fun hSn => ?_)
          clear hK K hSw0
          have hSw0 := hSn
          clear hSn
          (try simp only [Act.put, List.setIfInBounds_toArray, List.set_cons_zero, List.set_cons_succ])
          refine wpAnyH_take (i := 9) (oi := ⟨some 80, _, _, _, _, _⟩) (v := ?_) rfl (by kernel_rfl) (by kernel_rfl) (by kernel_rfl) (fun _ _ _ h => h) (Or.inl ⟨by rfl, ?_⟩) (by assumption) ?_
          rotate_left
          · intro w hSw
            (try dsimp only at hSw)
            go_simp
            all_goals (try with_reducible rfl)
          (try simp only [Act.put, List.setIfInBounds_toArray, List.set_cons_zero, List.set_cons_succ])
          refine wpAnyH_ready (rs := [10]) (by kernel_rfl) (by simp) ?_
          refine AllReadyH.cons (o := ⟨none, _, _, _, _, _⟩) rfl (fun K hK => ?_) AllReadyH.nil
          have yq := HDd.out.box.cell 13 (by simp)
          simp only [List.getElem_cons_zero, List.getElem_cons_succ] at yq
          have lq := HDd.out.box.lt
          have fq := HDd.out.box.frozen 13
          go_simp
          have hdp := HDd.out.put 13 (.slice A5 (j + 1) c5)
          simp only [List.set_cons_zero, List.set_cons_succ] at hdp
          have HDz := Lib.hid hdp
          clear hdp yq lq fq
          refine hK.out _ _ HDz.out.rd (fun hSn => ?_)
          clear hK K hSw0
          have hSw0 := hSn
          clear hSn
          (try simp only [Act.put, List.setIfInBounds_toArray, List.set_cons_zero, List.set_cons_succ])
          refine wpAnyH_done (by kernel_rfl) ?_ _
          clear hSw0
          go_wp2
          go_roundg (gk - 1)
          case measure => omega
          case rel =>
            have hO8 : Only [f] wa (wa.setCell ⟨f, 13, none⟩ (.slice A5 (j + 1) c5)) := (Only.refl _ _).set (by simp) _
            refine ⟨j + 1, A5, c5, by omega, by go_num, HDz.out, HGd.out.keep hO8 (fun k hk => ?_), HIBd.out.keep hO8 (fun a ha => by simpa using (HN0.out a ha).2.1), HIOd.out.keep hO8 (fun a ha => by simpa using (HN1.out a ha).2.1)⟩
            have := (HGd.out.1.lt k hk).1
            simp
            omega
        exact AllReadyH.nil
      exact AllReadyH.nil
    exact AllReadyH.nil
  · obtain rfl : j = sN := by omega
    obtain ⟨us, hus⟩ : ∃ us, readUs bs (rgK13 bs) j = us := ⟨_, rfl⟩
    have husl : us.length = j := by rw [← hus, readUs_length]
    rw [hus] at HGr
    have hrg : rgOf (pgN b) (((j : Nat) : Int)).toNat bs = ⟨x0, x1, x2, x3, x4, x5, x6, x7, x8, x9, x10, ub, uo, us⟩ := by
      unfold rgOf
      rw [HV0.out, HV1.out, HV2.out, HV3.out, HV4.out, HV5.out, HV6.out, HV7.out, HV8.out, HV9.out, HV10.out, HPP.out, HUB.out, HUO.out, Int.toNat_natCast, hus]
    have hds : (if encRg b (j : Int) l ⟨x0, x1, x2, x3, x4, x5, x6, x7, x8, x9, x10, ub, uo, us⟩ = some bs then some ⟨x0, x1, x2, x3, x4, x5, x6, x7, x8, x9, x10, ub, uo, us⟩ else none) = decRg b (j : Int) l bs := by
      unfold decRg decBy
      rw [hrg]
    have HDS := Lib.hid hds
    obtain ⟨A4', c4', hsl, huss, _⟩ := HGr.out.uss husl
    injection hsl with e1 e2 e3
    subst e1 e3
    have HUS := Lib.hid huss
    have HNU : Hid (∀ a, A4 = some a → a.block ≠ f ∧ w.heap.size ≤ a.block) := Lib.hid (fun a ha => by subst ha; have := (HGr.out.1.lt a.block rfl).1; exact ⟨by omega, by omega⟩)
    have HRA : Hid (RgAt wr ⟨x0, x1, x2, x3, x4, x5, x6, x7, x8, x9, x10, ub, uo, us⟩ (bA, P, bc) (oA, P, oc) (A4, j, c4)) := Lib.hid ⟨HIBr.out, HIOr.out, huss⟩
    have hd4 := HDr.out
    clear hrg hds huss hus husl
    have z0 := hd4.box.cell 0 (by simp)
    have f0 := hd4.box.frozen 0
    have z1 := hd4.box.cell 1 (by simp)
    have f1 := hd4.box.frozen 1
    have z2 := hd4.box.cell 2 (by simp)
    have f2 := hd4.box.frozen 2
    have z3 := hd4.box.cell 3 (by simp)
    have f3 := hd4.box.frozen 3
    have z4 := hd4.box.cell 4 (by simp)
    have f4 := hd4.box.frozen 4
    have z5 := hd4.box.cell 5 (by simp)
    have f5 := hd4.box.frozen 5
    have z6 := hd4.box.cell 6 (by simp)
    have f6 := hd4.box.frozen 6
    have z7 := hd4.box.cell 7 (by simp)
    have f7 := hd4.box.frozen 7
    have z8 := hd4.box.cell 8 (by simp)
    have f8 := hd4.box.frozen 8
    have z9 := hd4.box.cell 9 (by simp)
    have f9 := hd4.box.frozen 9
    have z10 := hd4.box.cell 10 (by simp)
    have f10 := hd4.box.frozen 10
    have z11 := hd4.box.cell 11 (by simp)
    have f11 := hd4.box.frozen 11
    have z12 := hd4.box.cell 12 (by simp)
    have f12 := hd4.box.frozen 12
    have z13 := hd4.box.cell 13 (by simp)
    have f13 := hd4.box.frozen 13
    simp only [List.getElem_cons_zero, List.getElem_cons_succ] at z0 z1 z2 z3 z4 z5 z6 z7 z8 z9 z10 z11 z12 z13
    have lf := hd4.box.lt
    clear hd4
    go_wp2_with fail
    refine (region_enc_own q b (j : Int) l x0 x1 x2 x3 x4 x5 x6 x7 x8 x9 x10 bA P bc ub oA P oc uo A4 j c4 us _ (HG.out.keep0 HDr.out.only) HC.out HRA.out).mono ?_
    intro en w4 he
    obtain ⟨A3, c3, rfl, hb3, _, hO3⟩ := he.says
    have HRA4 := Lib.hid (HRA.out.keep0 hO3)
    have HB := Lib.hid (HI.out.keep0 (HDr.out.only.trans' hO3))
    have HO4 := Lib.hid (HDr.out.only.trans' hO3)
    have hd4 := HDr.out.keep0 hO3
    clear he hO3 z0 z1 z2 z3 z4 z5 z6 z7 z8 z9 z10 z11 z12 z13 f0 f1 f2 f3 f4 f5 f6 f7 f8 f9 f10 f11 f12 f13 lf
    have z0 := hd4.box.cell 0 (by simp)
    have f0 := hd4.box.frozen 0
    have z1 := hd4.box.cell 1 (by simp)
    have f1 := hd4.box.frozen 1
    have z2 := hd4.box.cell 2 (by simp)
    have f2 := hd4.box.frozen 2
    have z3 := hd4.box.cell 3 (by simp)
    have f3 := hd4.box.frozen 3
    have z4 := hd4.box.cell 4 (by simp)
    have f4 := hd4.box.frozen 4
    have z5 := hd4.box.cell 5 (by simp)
    have f5 := hd4.box.frozen 5
    have z6 := hd4.box.cell 6 (by simp)
    have f6 := hd4.box.frozen 6
    have z7 := hd4.box.cell 7 (by simp)
    have f7 := hd4.box.frozen 7
    have z8 := hd4.box.cell 8 (by simp)
    have f8 := hd4.box.frozen 8
    have z9 := hd4.box.cell 9 (by simp)
    have f9 := hd4.box.frozen 9
    have z10 := hd4.box.cell 10 (by simp)
    have f10 := hd4.box.frozen 10
    have z11 := hd4.box.cell 11 (by simp)
    have f11 := hd4.box.frozen 11
    have z12 := hd4.box.cell 12 (by simp)
    have f12 := hd4.box.frozen 12
    have z13 := hd4.box.cell 13 (by simp)
    have f13 := hd4.box.frozen 13
    simp only [List.getElem_cons_zero, List.getElem_cons_succ] at z0 z1 z2 z3 z4 z5 z6 z7 z8 z9 z10 z11 z12 z13
    have lf := hd4.box.lt
    have hfw : w.heap.size ≤ f := hd4.hf
    clear hd4
    cases hen : encRg b (j : Int) l ⟨x0, x1, x2, x3, x4, x5, x6, x7, x8, x9, x10, ub, uo, us⟩ with
    | none =>
      rw [hen] at hb3
      clear hb3
      have hno : decRg b (j : Int) l bs = none := by rw [← HDS.out, hen]; rfl
      have HNO := Lib.hid hno
      clear hno hen
      go_wp2
      (try simp only [Exit.inBlock, Exit.then])
      refine bodyPost_ret (v := .tuple #[.agg #[.int .i64 0, .int .i64 0, .int .i64 0, .int .i64 0, .int .i64 0, .int .i64 0, .int .i64 0, .int .i64 0, .int .i64 0, .int .i64 0, .int .i64 0, .slice none 0 0, .slice none 0 0, .slice none 0 0], .int .i64 2]) ?_ rfl (RgSays.no HNO.out ?_)
      · simp only [results, HRES.out]
        go_simp
      · (repeat' first | (with_reducible refine Only.set ?_ (.inr hfw) _) | (with_reducible exact HO4.out))
    | some ys =>
      rw [hen] at hb3
      simp only [Option.getD_some] at hb3
      have HB3 := Lib.hid hb3
      have HEN := Lib.hid hen
      clear hb3 hen
      simp only [Option.getD_some, Option.isSome_some, if_true]
      go_wp2_with fail
      refine (bytes_equal_any A3 ys.length c3 ys A n c bs _ (by exact HB3.out) (by exact HB.out)).mono ?_
      rintro en w5 ⟨rfl, rfl⟩
      by_cases hyb : ys = bs
      · have hd : decide (ys = bs) = true := by simp [hyb]
        have hyes : decRg b (j : Int) l bs = some ⟨x0, x1, x2, x3, x4, x5, x6, x7, x8, x9, x10, ub, uo, us⟩ := by rw [← HDS.out, HEN.out, hyb, if_pos rfl]
        have HYES := Lib.hid hyes
        clear hyes hyb
        go_wp2
        (try simp only [Exit.inBlock, Exit.then])
        have hO9 : ∀ W : World, Only [f] w4 W → Only [] w W := fun W h => HO4.out.trans h (by simpa using hfw)
        refine bodyPost_ret (v := .tuple #[.agg #[.int .i64 x0, .int .i64 x1, .int .i64 x2, .int .i64 x3, .int .i64 x4, .int .i64 x5, .int .i64 x6, .int .i64 x7, .int .i64 x8, .int .i64 x9, .int .i64 x10, .slice bA P bc, .slice oA P oc, .slice A4 j c4], .int .i64 0]) ?_ rfl ?_
        · simp only [results, HRES.out]
          go_simp
        · rw [HYES.out]
          refine ⟨(bA, P, bc), (oA, P, oc), (A4, j, c4), rfl, RgAt.keepF (f := f) HRA4.out ?_ (fun a ha => (HN0.out a ha).2.1) (fun a ha => (HN1.out a ha).2.1) (fun a ha => (HNU.out a ha).1), ⟨fun a ha => (HN0.out a ha).2.2.2, fun a ha => (HN1.out a ha).2.2.2, fun a ha => (HNU.out a ha).2⟩, hO9 _ ?_⟩
          · (repeat' first | (with_reducible refine Only.set ?_ (.inl (by simp)) _) | (with_reducible exact Only.refl _ _))
          · (repeat' first | (with_reducible refine Only.set ?_ (.inl (by simp)) _) | (with_reducible exact Only.refl _ _))
      · have hd : decide (ys = bs) = false := by simp [hyb]
        have hno : decRg b (j : Int) l bs = none := by rw [← HDS.out, HEN.out, if_neg (by intro h; injection h with h; exact hyb h)]
        have HNO := Lib.hid hno
        clear hno hyb
        go_wp2
        (try simp only [Exit.inBlock, Exit.then])
        refine bodyPost_ret (v := .tuple #[.agg #[.int .i64 0, .int .i64 0, .int .i64 0, .int .i64 0, .int .i64 0, .int .i64 0, .int .i64 0, .int .i64 0, .int .i64 0, .int .i64 0, .int .i64 0, .slice none 0 0, .slice none 0 0, .slice none 0 0], .int .i64 2]) ?_ rfl (RgSays.no HNO.out ?_)
        · simp only [results, HRES.out]
          go_simp
        · (repeat' first | (with_reducible refine Only.set ?_ (.inr hfw) _) | (with_reducible exact HO4.out))
end Go.Proofs.Ytkpagiokjihmhaa
