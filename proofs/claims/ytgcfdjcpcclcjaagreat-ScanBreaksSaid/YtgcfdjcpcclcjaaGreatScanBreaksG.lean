/- ScnE, ScnF, ScnG: joined by pack.py, without what the claim does not use. -/
import Derived.Test.YtgcfdjcpcclcjaaGreatScanBreaksF
set_option linter.unusedVariables false
set_option linter.unusedSimpArgs false
namespace Go.Kn
open Go Go.RowKit
section
variable {d : Dk} {c : Cf} {p : Ps} {a : Int} {n : Nat}
theorem follow_out (h : ¬ (1 ≤ p.o ∧ p.o ≤ c.l - 1)) : follow d c p = (none, 0) := if_neg h
theorem follow_err (h : 1 ≤ p.o ∧ p.o ≤ c.l - 1) (ha : c.at_ p.s + p.o = a) (he : d.err a ≠ 0) : follow d c p = (none, d.err a) := by
  unfold follow
  rw [if_pos h, ha, if_neg he]
theorem follow_size (h : 1 ≤ p.o ∧ p.o ≤ c.l - 1) (ha : c.at_ p.s + p.o = a) (he : d.err a = 0) (hn : sizeRc (d.read a) = n) (hs : n = 0 ∨ c.l < p.o + (n : Int)) : follow d c p = (none, 0) := by
  unfold follow
  rw [if_pos h, ha, if_pos he, hn, if_pos hs]
theorem follow_gerr (h : 1 ≤ p.o ∧ p.o ≤ c.l - 1) (ha : c.at_ p.s + p.o = a) (he : d.err a = 0) (hn : sizeRc (d.read a) = n) (hs : ¬ (n = 0 ∨ c.l < p.o + (n : Int))) (hg : gerr d a n ≠ 0) : follow d c p = (none, gerr d a n) := by
  unfold follow
  rw [if_pos h, ha, if_pos he, hn, if_neg hs, if_neg hg]
theorem follow_dec (h : 1 ≤ p.o ∧ p.o ≤ c.l - 1) (ha : c.at_ p.s + p.o = a) (he : d.err a = 0) (hn : sizeRc (d.read a) = n) (hs : ¬ (n = 0 ∨ c.l < p.o + (n : Int))) (hg : gerr d a n = 0) (hd : decRc (gat d a n) = none) : follow d c p = (none, 0) := by
  unfold follow
  rw [if_pos h, ha, if_pos he, hn, if_neg hs, if_pos hg, hd]
theorem follow_rec (h : 1 ≤ p.o ∧ p.o ≤ c.l - 1) (ha : c.at_ p.s + p.o = a) (he : d.err a = 0) (hn : sizeRc (d.read a) = n) (hs : ¬ (n = 0 ∨ c.l < p.o + (n : Int))) (hg : gerr d a n = 0) {r : Rc} {sum : Nat} (hd : decRc (gat d a n) = some (r, sum)) :
    follow d c p = if r.n = p.l ∧ r.p = p.p ∧ p.m ≤ r.m then (some (r, ⟨p.s, p.o + (n : Int), p.l + 1, (sum : Nat), r.m⟩), 0) else (none, 0) := by
  unfold follow
  rw [if_pos h, ha, if_pos he, hn, if_neg hs, if_pos hg, hd]
end
theorem sizeRc_le (b : List UInt8) : sizeRc b ≤ 7 := by
  unfold sizeRc
  split
  · rename_i h
    have h2 := h.2
    unfold rcHd at h2
    simp only [Bool.and_eq_true, decide_eq_true_eq] at h2
    omega
  · omega
end Go.Kn
namespace Go.Proofs.YtgcfdjcpcclcjaaGreat
open Go Go.RowKit Go.Kn
def OneSays (w0 wb : World) (S D gb : Nat) (p : Ps) (own : Bool) (e : Ps) (L : List (Nat × List Value)) (G : List Gs) (F : List (World → Prop)) (x : Option (Rc × Ps) × Int) (en : Ending) (w' : World) : Prop :=
  match x with
  | (none, er) => en = .returned (.tuple #[.agg #[.int .i64 0, .int .i64 0, .int .i64 0, .slice none 0 0, .slice none 0 0], .agg #[.int .i64 0, .int .i64 0, .int .i64 0, .int .i64 0, .int .i64 0], .bool false]) ∧ Wk w0 wb w' ((S, SB D gb p own e er) :: L) G F
  | (some (r, nx), _) => ∃ s t, en = .returned (.tuple #[.agg (r.cells s t), .agg #[.int .i64 nx.s, .int .i64 nx.o, .int .i64 nx.l, .int .i64 nx.p, .int .i64 nx.m], .bool true]) ∧ Wk w0 wb w' ((S, SB D gb p own e 0) :: L) G ((fun W => RcAt W r s t) :: F)
theorem OneSays.no {w0 wb w' : World} {S D gb : Nat} {p : Ps} {own : Bool} {e : Ps} {L : List (Nat × List Value)} {G : List Gs} {F : List (World → Prop)} {x : Option (Rc × Ps) × Int} {er : Int} (hx : x = (none, er)) (hw : Wk w0 wb w' ((S, SB D gb p own e er) :: L) G F) : OneSays w0 wb S D gb p own e L G F x (.returned (.tuple #[.agg #[.int .i64 0, .int .i64 0, .int .i64 0, .slice none 0 0, .slice none 0 0], .agg #[.int .i64 0, .int .i64 0, .int .i64 0, .int .i64 0, .int .i64 0], .bool false])) w' := by
  subst hx
  exact ⟨rfl, hw⟩
set_option maxRecDepth 100000 in
set_option maxHeartbeats 16000000 in
theorem scan_one_any {wb : World} (w0 w : World) (S gb : Nat) (pd : PD) (d : Dk) (cf : Cf) (p : Ps) (own : Bool) (e q : Ps) (L : List (Nat × List Value)) (G : List Gs) (F : List (World → Prop))
    (hw : Wk w0 wb w ((S, SB pd.D gb p own e 0) :: L) G F) (hd : DkIn pd d L) (hg : (fun W => GeoAt W gb cf.b cf.s cf.l) ∈ F) (hc : cf.Ok) (hqo : 1 ≤ q.o ∧ q.o ≤ 64) (hqs : 0 ≤ q.s ∧ q.s ≤ cf.s - 1) :
    Calls Tryz.prog 153 #[.pointer (some ⟨S, 0, none⟩), .agg #[.int .i64 q.s, .int .i64 q.o, .int .i64 q.l, .int .i64 q.p, .int .i64 q.m]] w (OneSays w0 wb S pd.D gb p own e L G F (Kn.follow d cf q)) := by
  have hres : Tryz.f153.results = #[.cell 4 56, .cell 5 32, .tmp 6] := by kernel_rfl
  have HRES := Lib.hid hres
  have HG := Lib.hid hg
  have HC := Lib.hid hc
  have HDK := Lib.hid hd
  have hat : 0 ≤ cf.at_ q.s ∧ cf.at_ q.s ≤ 100000 := by
    obtain ⟨m1, m2⟩ := Cf.prod cf hc q.s hqs.1 (by omega)
    have h1 := rln_bounds hc
    have h2 := pgs_bounds hc
    unfold Cf.at_
    rw [if_pos hqs]
    omega
  obtain ⟨ho0, ho1⟩ := hqo
  obtain ⟨hl0, hl1⟩ := hc.2.2
  have HW0 := Lib.hid ((((hw.newB #[.int .i64 q.s, .int .i64 q.o, .int .i64 q.l, .int .i64 q.p, .int .i64 q.m] 32 rfl).newB #[.int .i64 0, .int .i64 0, .int .i64 0, .slice none 0 0, .slice none 0 0] 56 rfl).newB #[.int .i64 0, .int .i64 0, .int .i64 0, .int .i64 0, .int .i64 0] 32 rfl).perm (List.perm_middle (l₁ := [_, _, _])) (List.Perm.refl _))
  clear hres hg hc hd hw
  go_enter Tryz.func153, Tryz.ntmps153
  go_wp2_with fail
  generalize hz1 : ((w.alloc (.cells #[.int .i64 q.s, .int .i64 q.o, .int .i64 q.l, .int .i64 q.p, .int .i64 q.m] 32)).alloc (.cells #[.int .i64 0, .int .i64 0, .int .i64 0, .slice none 0 0, .slice none 0 0] 56)).alloc (.cells #[.int .i64 0, .int .i64 0, .int .i64 0, .int .i64 0, .int .i64 0] 32) = w1 at *
  have hs1 : (w.alloc (.cells #[.int .i64 q.s, .int .i64 q.o, .int .i64 q.l, .int .i64 q.p, .int .i64 q.m] 32)).heap.size = w.heap.size + 1 := by simp
  have hs2 : ((w.alloc (.cells #[.int .i64 q.s, .int .i64 q.o, .int .i64 q.l, .int .i64 q.p, .int .i64 q.m] 32)).alloc (.cells #[.int .i64 0, .int .i64 0, .int .i64 0, .slice none 0 0, .slice none 0 0] 56)).heap.size = w.heap.size + 1 + 1 := by simp
  rw [hs1, hs2] at HW0
  clear hz1 hs1 hs2
  generalize w.heap.size = fq at *
  generalize fq + 1 = fr at *
  generalize fr + 1 = fn at *
  have HW1 : Hid (Wk w0 wb w1 ((S, SB pd.D gb p own e 0) :: (fn, [.int .i64 0, .int .i64 0, .int .i64 0, .int .i64 0, .int .i64 0]) :: (fr, [.int .i64 0, .int .i64 0, .int .i64 0, .slice none 0 0, .slice none 0 0]) :: (fq, [.int .i64 q.s, .int .i64 q.o, .int .i64 q.l, .int .i64 q.p, .int .i64 q.m]) :: L) G F) := Lib.hid HW0.out
  clear HW0
  have hfl := field_cfg2 cf.b cf.s cf.l
  have hw3 := IntWalk.i64_in (cf.at_ q.s + q.o) (by omega)
  obtain ⟨a, ha⟩ : ∃ a, cf.at_ q.s + q.o = a := ⟨_, rfl⟩
  have hab : 0 ≤ a ∧ a ≤ 200000 := by omega
  have HA := Lib.hid ha
  obtain ⟨ha0, ha1⟩ := hab
  obtain ⟨sa, hsa⟩ : ∃ z, cf.at_ q.s = z := ⟨_, rfl⟩
  have HSA := Lib.hid hsa
  rw [hsa] at hw3 hat ha
  have hw4 : IntKind.i64.wrap (sa + q.o) = a := by rw [hw3, ha]
  obtain ⟨hat0, hat1⟩ := hat
  clear ha hsa hw3
  go_wp2_with fail
  have HY := Lib.hid HW1.out.drew
  clear HW1
  refine wp_region_held_drew (S := (fun w' => Kn.Own w' fq [.int .i64 q.s, .int .i64 q.o, .int .i64 q.l, .int .i64 q.p, .int .i64 q.m] ∧ w'.cell? ⟨S, 1, none⟩ = some (.pointer (some ⟨gb, 0, none⟩)))) (by kernel_rfl) ⟨HY.out.boxi 3 rfl, by simpa [SB] using (HY.out.boxi 0 (p := S) rfl).cell 1 (by simp [SB])⟩ (fun hSw0 => ?_)
  generalize w1.drew = wz at *
  refine wpAnyH_take (i := 0) (oi := ⟨some 15, _, _, _, _, _⟩) (v := ?_) rfl (by kernel_rfl) (by kernel_rfl) (by kernel_rfl) (fun _ _ _ h => h) (Or.inl ⟨by rfl, ?_⟩) (by assumption) ?_
  rotate_left
  · intro w hSw
    (try dsimp only at hSw)
    go_simp
    all_goals (try with_reducible rfl)
  (try simp only [Act.put, List.setIfInBounds_toArray, List.set_cons_zero, List.set_cons_succ])
  refine wpAnyH_take (i := 1) (oi := ⟨some 16, _, _, _, _, _⟩) (v := (.int .i64 q.o)) rfl (by kernel_rfl) (by kernel_rfl) (by kernel_rfl) (fun _ _ _ h => h) (Or.inl ⟨by rfl, ?_⟩) (by assumption) ?_
  · intro w hSw
    have q0 := hSw.1.cell 1 (by simp)
    simp only [List.getElem_cons_zero, List.getElem_cons_succ] at q0
    go_simp
  (try simp only [Act.put, List.setIfInBounds_toArray, List.set_cons_zero, List.set_cons_succ])
  refine wpAnyH_take (i := 2) (oi := ⟨some 17, _, _, _, _, _⟩) (v := ?_) rfl (by kernel_rfl) (by kernel_rfl) (by kernel_rfl) (fun _ _ _ h => h) (Or.inl ⟨by rfl, ?_⟩) (by assumption) ?_
  rotate_left
  · intro w hSw
    (try dsimp only at hSw)
    go_simp
    all_goals (try with_reducible rfl)
  (try simp only [Act.put, List.setIfInBounds_toArray, List.set_cons_zero, List.set_cons_succ])
  refine wpAnyH_take (i := 3) (oi := ⟨some 18, _, _, _, _, _⟩) (v := ?_) rfl (by kernel_rfl) (by kernel_rfl) (by kernel_rfl) (fun _ _ _ h => h) (Or.inl ⟨by rfl, ?_⟩) (by assumption) ?_
  rotate_left
  · intro w hSw
    (try dsimp only at hSw)
    go_simp
    all_goals (try with_reducible rfl)
  (try simp only [Act.put, List.setIfInBounds_toArray, List.set_cons_zero, List.set_cons_succ])
  refine wpAnyH_take (i := 4) (oi := ⟨some 19, _, _, _, _, _⟩) (v := ?_) rfl (by kernel_rfl) (by kernel_rfl) (by kernel_rfl) (fun _ _ _ h => h) (Or.inl ⟨by rfl, ?_⟩) (by assumption) ?_
  rotate_left
  · intro w hSw
    (try dsimp only at hSw)
    go_simp
    all_goals (try with_reducible rfl)
  (try simp only [Act.put, List.setIfInBounds_toArray, List.set_cons_zero, List.set_cons_succ])
  refine wpAnyH_take (i := 5) (oi := ⟨some 20, _, _, _, _, _⟩) (v := ?_) rfl (by kernel_rfl) (by kernel_rfl) (by kernel_rfl) (fun _ _ _ h => h) (Or.inl ⟨by rfl, ?_⟩) (by assumption) ?_
  rotate_left
  · intro w hSw
    (try dsimp only at hSw)
    go_simp
    all_goals (try with_reducible rfl)
  (try simp only [Act.put, List.setIfInBounds_toArray, List.set_cons_zero, List.set_cons_succ])
  refine wpAnyH_ready (rs := [6]) (by kernel_rfl) (by simp) ?_
  refine AllReadyH.cons (o := ⟨some 21, _, _, _, _, _⟩) rfl (fun K hK => ?_) AllReadyH.nil
  go_simp
  refine (geom_config_any gb cf.b cf.s cf.l _ (HY.out.fact (fun W => GeoAt W gb cf.b cf.s cf.l) HG.out)).mono ?_
  rintro en w2 ⟨rfl, hO⟩
  have HW2 := Lib.hid (HY.out.keep0 hO)
  clear hO HY
  refine hK.out _ _ ⟨HW2.out.boxi 3 rfl, by simpa [SB] using (HW2.out.boxi 0 (p := S) rfl).cell 1 (by simp [SB])⟩ (fun hSn => ?_)
  clear hK K hSw0
  have hSw0 := hSn
  clear hSn
  (try simp only [Act.put, List.setIfInBounds_toArray, List.set_cons_zero, List.set_cons_succ])
  refine wpAnyH_take (i := 7) (oi := ⟨some 22, _, _, _, _, _⟩) (v := ?_) rfl (by kernel_rfl) (by kernel_rfl) (by kernel_rfl) (fun _ _ _ h => h) (Or.inl ⟨by rfl, ?_⟩) (by assumption) ?_
  rotate_left
  · intro w hSw
    (try dsimp only at hSw)
    go_simp
    all_goals (try with_reducible rfl)
  (try simp only [Act.put, List.setIfInBounds_toArray, List.set_cons_zero, List.set_cons_succ])
  refine wpAnyH_take (i := 8) (oi := ⟨some 23, _, _, _, _, _⟩) (v := ?_) rfl (by kernel_rfl) (by kernel_rfl) (by kernel_rfl) (fun _ _ _ h => h) (Or.inl ⟨by rfl, ?_⟩) (by assumption) ?_
  rotate_left
  · intro w hSw
    (try dsimp only at hSw)
    go_simp
    all_goals (try with_reducible rfl)
  (try simp only [Act.put, List.setIfInBounds_toArray, List.set_cons_zero, List.set_cons_succ])
  refine wpAnyH_done (by kernel_rfl) ?_ _
  clear hSw0
  by_cases hfar : cf.l ≤ q.o
  · have hfar2 : q.o ≥ cf.l := hfar
    go_wp2_with fail
    have HY := Lib.hid HW2.out.drew
    clear HW2
    refine wp_region_held_drew (S := (fun w' => Kn.Own w' fr [.int .i64 0, .int .i64 0, .int .i64 0, .slice none 0 0, .slice none 0 0] ∧ Kn.Own w' fn [.int .i64 0, .int .i64 0, .int .i64 0, .int .i64 0, .int .i64 0])) (by kernel_rfl) ⟨HY.out.boxi 2 rfl, HY.out.boxi 1 rfl⟩ (fun hSw0 => ?_)
    generalize w2.drew = wz at *
    refine wpAnyH_take (i := 0) (oi := ⟨some 24, _, _, _, _, _⟩) (v := (.agg #[.int .i64 0, .int .i64 0, .int .i64 0, .slice none 0 0, .slice none 0 0])) rfl (by kernel_rfl) (by kernel_rfl) (by kernel_rfl) (fun _ _ _ h => h) (Or.inl ⟨by rfl, ?_⟩) (by assumption) ?_
    · intro w hSw
      have q0 := hSw.1
      have q00 := q0.cell 0 (by simp)
      have q01 := q0.cell 1 (by simp)
      have q02 := q0.cell 2 (by simp)
      have q03 := q0.cell 3 (by simp)
      have q04 := q0.cell 4 (by simp)
      simp only [List.getElem_cons_zero, List.getElem_cons_succ] at q00 q01 q02 q03 q04
      clear q0
      go_simp
    (try simp only [Act.put, List.setIfInBounds_toArray, List.set_cons_zero, List.set_cons_succ])
    refine wpAnyH_take (i := 1) (oi := ⟨some 25, _, _, _, _, _⟩) (v := (.agg #[.int .i64 0, .int .i64 0, .int .i64 0, .int .i64 0, .int .i64 0])) rfl (by kernel_rfl) (by kernel_rfl) (by kernel_rfl) (fun _ _ _ h => h) (Or.inl ⟨by rfl, ?_⟩) (by assumption) ?_
    · intro w hSw
      have q0 := hSw.2
      have q00 := q0.cell 0 (by simp)
      have q01 := q0.cell 1 (by simp)
      have q02 := q0.cell 2 (by simp)
      have q03 := q0.cell 3 (by simp)
      have q04 := q0.cell 4 (by simp)
      simp only [List.getElem_cons_zero, List.getElem_cons_succ] at q00 q01 q02 q03 q04
      clear q0
      go_simp
    (try simp only [Act.put, List.setIfInBounds_toArray, List.set_cons_zero, List.set_cons_succ])
    refine wpAnyH_ready (rs := [2]) (by kernel_rfl) (by simp) ?_
    refine AllReadyH.cons (o := ⟨none, _, _, _, _, _⟩) rfl (fun K hK => ?_) AllReadyH.nil
    refine step_store_own rfl 56 (.tmp 4) (.tmp 24) rfl fr [.int .i64 0, .int .i64 0, .int .i64 0, .slice none 0 0, .slice none 0 0] [.int .i64 0, .int .i64 0, .int .i64 0, .slice none 0 0, .slice none 0 0] (by kernel_rfl) rfl rfl (HY.out.boxi 2 rfl) rfl (by intro u hu; simp at hu; rcases hu with rfl | rfl <;> rfl) ?_
    intro wa ho hO
    have HY1 := Lib.hid (HY.out.call1 2 rfl ho hO)
    clear ho hO HY
    refine hK.out _ _ ⟨HY1.out.boxi 2 rfl, HY1.out.boxi 1 rfl⟩ (fun hSn => ?_)
    clear hK K hSw0
    have hSw0 := hSn
    clear hSn
    (try simp only [Act.put, List.setIfInBounds_toArray, List.set_cons_zero, List.set_cons_succ])
    refine wpAnyH_ready (rs := [3]) (by kernel_rfl) (by simp) ?_
    refine AllReadyH.cons (o := ⟨none, _, _, _, _, _⟩) rfl (fun K hK => ?_) AllReadyH.nil
    refine step_store_own rfl 32 (.tmp 5) (.tmp 25) rfl fn [.int .i64 0, .int .i64 0, .int .i64 0, .int .i64 0, .int .i64 0] [.int .i64 0, .int .i64 0, .int .i64 0, .int .i64 0, .int .i64 0] (by kernel_rfl) rfl rfl (HY1.out.boxi 1 rfl) rfl (by intro u hu; simp at hu; subst hu; rfl) ?_
    intro wy ho hO
    have HY2 := Lib.hid (HY1.out.call1 1 rfl ho hO)
    clear ho hO HY1
    refine hK.out _ _ ⟨HY2.out.boxi 2 rfl, HY2.out.boxi 1 rfl⟩ (fun hSn => ?_)
    clear hK K hSw0
    have hSw0 := hSn
    clear hSn
    (try simp only [Act.put, List.setIfInBounds_toArray, List.set_cons_zero, List.set_cons_succ])
    refine wpAnyH_take (i := 4) (oi := ⟨some 6, _, _, _, _, _⟩) (v := ?_) rfl (by kernel_rfl) (by kernel_rfl) (by kernel_rfl) (fun _ _ _ h => h) (Or.inl ⟨by rfl, ?_⟩) (by assumption) ?_
    rotate_left
    · intro w hSw
      (try dsimp only at hSw)
      go_simp
      all_goals (try with_reducible rfl)
    (try simp only [Act.put, List.setIfInBounds_toArray, List.set_cons_zero, List.set_cons_succ])
    refine wpAnyH_done (by kernel_rfl) ?_ _
    clear hSw0
    have HFOL := Lib.hid (follow_out (d := d) (c := cf) (p := q) (by omega))
    have br := HY2.out.boxi 2 rfl
    have bn := HY2.out.boxi 1 rfl
    have r0 := br.cell 0 (by simp)
    have r1 := br.cell 1 (by simp)
    have r2 := br.cell 2 (by simp)
    have r3 := br.cell 3 (by simp)
    have r4 := br.cell 4 (by simp)
    simp only [List.getElem_cons_zero, List.getElem_cons_succ] at r0 r1 r2 r3 r4
    have n0 := bn.cell 0 (by simp)
    have n1 := bn.cell 1 (by simp)
    have n2 := bn.cell 2 (by simp)
    have n3 := bn.cell 3 (by simp)
    have n4 := bn.cell 4 (by simp)
    simp only [List.getElem_cons_zero, List.getElem_cons_succ] at n0 n1 n2 n3 n4
    clear br bn
    go_wp2
    (try simp only [Exit.inBlock, Exit.then])
    refine bodyPost_ret (v := .tuple #[.agg #[.int .i64 0, .int .i64 0, .int .i64 0, .slice none 0 0, .slice none 0 0], .agg #[.int .i64 0, .int .i64 0, .int .i64 0, .int .i64 0, .int .i64 0], .bool false]) ?_ rfl ?_
    · simp only [results, HRES.out]
      go_simp
    · have HYs : Wk w0 wb wy ((S, SB pd.D gb p own e 0) :: (fn, [.int .i64 0, .int .i64 0, .int .i64 0, .int .i64 0, .int .i64 0]) :: (fr, [.int .i64 0, .int .i64 0, .int .i64 0, .slice none 0 0, .slice none 0 0]) :: (fq, [.int .i64 q.s, .int .i64 q.o, .int .i64 q.l, .int .i64 q.p, .int .i64 q.m]) :: L) G F := HY2.out
      exact OneSays.no HFOL.out ((HYs.sub (L' := (S, SB pd.D gb p own e 0) :: L) (F' := F) (.cons_cons _ (.cons _ (.cons _ (.cons _ (List.Sublist.refl _))))) (fun f hf => hf)).subG (G' := G) (by simp))
  · go_wp2_with fail
    have HY := Lib.hid HW2.out.drew
    clear HW2
    refine wp_region_held_drew (S := (fun w' => Kn.Own w' fq [.int .i64 q.s, .int .i64 q.o, .int .i64 q.l, .int .i64 q.p, .int .i64 q.m] ∧ w'.cell? ⟨S, 1, none⟩ = some (.pointer (some ⟨gb, 0, none⟩)))) (by kernel_rfl) ⟨HY.out.boxi 3 rfl, by simpa [SB] using (HY.out.boxi 0 (p := S) rfl).cell 1 (by simp [SB])⟩ (fun hSw0 => ?_)
    generalize w2.drew = wz at *
    refine wpAnyH_take (i := 0) (oi := ⟨some 26, _, _, _, _, _⟩) (v := ?_) rfl (by kernel_rfl) (by kernel_rfl) (by kernel_rfl) (fun _ _ _ h => h) (Or.inl ⟨by rfl, ?_⟩) (by assumption) ?_
    rotate_left
    · intro w hSw
      (try dsimp only at hSw)
      go_simp
      all_goals (try with_reducible rfl)
    (try simp only [Act.put, List.setIfInBounds_toArray, List.set_cons_zero, List.set_cons_succ])
    refine wpAnyH_take (i := 1) (oi := ⟨some 27, _, _, _, _, _⟩) (v := ?_) rfl (by kernel_rfl) (by kernel_rfl) (by kernel_rfl) (fun _ _ _ h => h) (Or.inl ⟨by rfl, ?_⟩) (by assumption) ?_
    rotate_left
    · intro w hSw
      (try dsimp only at hSw)
      go_simp
      all_goals (try with_reducible rfl)
    (try simp only [Act.put, List.setIfInBounds_toArray, List.set_cons_zero, List.set_cons_succ])
    refine wpAnyH_take (i := 2) (oi := ⟨some 28, _, _, _, _, _⟩) (v := ?_) rfl (by kernel_rfl) (by kernel_rfl) (by kernel_rfl) (fun _ _ _ h => h) (Or.inl ⟨by rfl, ?_⟩) (by assumption) ?_
    rotate_left
    · intro w hSw
      (try dsimp only at hSw)
      go_simp
      all_goals (try with_reducible rfl)
    (try simp only [Act.put, List.setIfInBounds_toArray, List.set_cons_zero, List.set_cons_succ])
    refine wpAnyH_take (i := 3) (oi := ⟨some 29, _, _, _, _, _⟩) (v := ?_) rfl (by kernel_rfl) (by kernel_rfl) (by kernel_rfl) (fun _ _ _ h => h) (Or.inl ⟨by rfl, ?_⟩) (by assumption) ?_
    rotate_left
    · intro w hSw
      (try dsimp only at hSw)
      go_simp
      all_goals (try with_reducible rfl)
    (try simp only [Act.put, List.setIfInBounds_toArray, List.set_cons_zero, List.set_cons_succ])
    refine wpAnyH_take (i := 4) (oi := ⟨some 30, _, _, _, _, _⟩) (v := ?_) rfl (by kernel_rfl) (by kernel_rfl) (by kernel_rfl) (fun _ _ _ h => h) (Or.inl ⟨by rfl, ?_⟩) (by assumption) ?_
    rotate_left
    · intro w hSw
      (try dsimp only at hSw)
      go_simp
      all_goals (try with_reducible rfl)
    (try simp only [Act.put, List.setIfInBounds_toArray, List.set_cons_zero, List.set_cons_succ])
    refine wpAnyH_take (i := 5) (oi := ⟨some 31, _, _, _, _, _⟩) (v := (.int .i64 q.s)) rfl (by kernel_rfl) (by kernel_rfl) (by kernel_rfl) (fun _ _ _ h => h) (Or.inl ⟨by rfl, ?_⟩) (by assumption) ?_
    · intro w hSw
      have q0 := hSw.1.cell 0 (by simp)
      simp only [List.getElem_cons_zero, List.getElem_cons_succ] at q0
      go_simp
    (try simp only [Act.put, List.setIfInBounds_toArray, List.set_cons_zero, List.set_cons_succ])
    refine wpAnyH_take (i := 7) (oi := ⟨some 33, _, _, _, _, _⟩) (v := ?_) rfl (by kernel_rfl) (by kernel_rfl) (by kernel_rfl) (fun _ _ _ h => h) (Or.inl ⟨by rfl, ?_⟩) (by assumption) ?_
    rotate_left
    · intro w hSw
      (try dsimp only at hSw)
      go_simp
      all_goals (try with_reducible rfl)
    (try simp only [Act.put, List.setIfInBounds_toArray, List.set_cons_zero, List.set_cons_succ])
    refine wpAnyH_take (i := 8) (oi := ⟨some 34, _, _, _, _, _⟩) (v := (.int .i64 q.o)) rfl (by kernel_rfl) (by kernel_rfl) (by kernel_rfl) (fun _ _ _ h => h) (Or.inl ⟨by rfl, ?_⟩) (by assumption) ?_
    · intro w hSw
      have q0 := hSw.1.cell 1 (by simp)
      simp only [List.getElem_cons_zero, List.getElem_cons_succ] at q0
      go_simp
    (try simp only [Act.put, List.setIfInBounds_toArray, List.set_cons_zero, List.set_cons_succ])
    refine wpAnyH_ready (rs := [6]) (by kernel_rfl) (by simp) ?_
    refine AllReadyH.cons (o := ⟨some 32, _, _, _, _, _⟩) rfl (fun K hK => ?_) AllReadyH.nil
    go_simp
    refine (geom_seg_any gb cf q.s _ (HY.out.fact (fun W => GeoAt W gb cf.b cf.s cf.l) HG.out) HC.out).mono ?_
    rintro en w3 ⟨rfl, hO⟩
    rw [HSA.out]
    have HW3 := Lib.hid (HY.out.keep0 hO)
    clear hO HY
    refine hK.out _ _ ⟨HW3.out.boxi 3 rfl, by simpa [SB] using (HW3.out.boxi 0 (p := S) rfl).cell 1 (by simp [SB])⟩ (fun hSn => ?_)
    clear hK K hSw0
    have hSw0 := hSn
    clear hSn
    (try simp only [Act.put, List.setIfInBounds_toArray, List.set_cons_zero, List.set_cons_succ])
    refine wpAnyH_take (i := 9) (oi := ⟨some 35, _, _, _, _, _⟩) (v := ?_) rfl (by kernel_rfl) (by kernel_rfl) (by kernel_rfl) (fun _ _ _ h => h) (Or.inl ⟨by rfl, ?_⟩) (by assumption) ?_
    rotate_left
    · intro w hSw
      (try dsimp only at hSw)
      go_simp
      all_goals (try with_reducible rfl)
    (try simp only [Act.put, List.setIfInBounds_toArray, List.set_cons_zero, List.set_cons_succ])
    refine wpAnyH_take (i := 10) (oi := ⟨some 7, _, _, _, _, _⟩) (v := ?_) rfl (by kernel_rfl) (by kernel_rfl) (by kernel_rfl) (fun _ _ _ h => h) (Or.inl ⟨by rfl, ?_⟩) (by assumption) ?_
    rotate_left
    · intro w hSw
      (try dsimp only at hSw)
      go_simp
      all_goals (try with_reducible rfl)
    (try simp only [Act.put, List.setIfInBounds_toArray, List.set_cons_zero, List.set_cons_succ])
    refine wpAnyH_done (by kernel_rfl) ?_ _
    clear hSw0
    go_wp2_with fail
    refine (scan_read_own w0 _ S gb pd d p own e 0 _ G F a HW3.out (HDK.out.mono (fun x hx => by simp [hx]))).mono ?_
    rintro en w4 ⟨A, n, cc, rfl, hrd⟩
    have HW4 := Lib.hid hrd
    clear hrd HW3
    have hbo := (Row1.of_owns (HW4.out.gi 0 rfl)).1
    have hnl := hbo.len
    rw [bvs_length] at hnl
    have hn64 : n ≤ 65536 := by rw [← hnl, Dk.read_len HDK.out.ok]; split <;> omega
    have HBO := Lib.hid hbo
    have HNL := Lib.hid hnl
    obtain ⟨z, hz⟩ : ∃ z, d.err a = z := ⟨_, rfl⟩
    rw [hz] at HW4 ⊢
    have HZ := Lib.hid hz
    clear hbo hnl hz
    go_wp2_with fail
    refine (rec_size_any A n cc _ _ HBO.out hn64).mono ?_
    rintro en w5 ⟨rfl, hO⟩
    have HW5 := Lib.hid (HW4.out.keep0 hO)
    clear hO HW4 HBO
    obtain ⟨N, hN⟩ : ∃ N, sizeRc (d.read a) = N := ⟨_, rfl⟩
    have hN7 : N ≤ 7 := by rw [← hN]; exact sizeRc_le _
    rw [hN]
    have HN := Lib.hid hN
    clear hN
    go_wp2_with fail
    have HQ6 := Lib.hid HW5.out.drew
    clear HW5
    refine wp_region_held_drew (S := (fun w' => Kn.Own w' fq [.int .i64 q.s, .int .i64 q.o, .int .i64 q.l, .int .i64 q.p, .int .i64 q.m] ∧ w'.cell? ⟨S, 1, none⟩ = some (.pointer (some ⟨gb, 0, none⟩)))) (by kernel_rfl) ⟨HQ6.out.boxi 3 rfl, by simpa [SB] using (HQ6.out.boxi 0 (p := S) rfl).cell 1 (by simp [SB])⟩ (fun hSw7 => ?_)
    generalize w5.drew = v7 at *
    by_cases hz0 : z = 0
    · subst hz0
      by_cases hN0 : N = 0
      · subst hN0
        refine wpAnyH_take (i := 0) (oi := ⟨some 44, _, _, _, _, _⟩) (v := ?_) rfl (by kernel_rfl) (by kernel_rfl) (by kernel_rfl) (fun _ _ _ h => h) (Or.inl ⟨by rfl, ?_⟩) (by assumption) ?_
        rotate_left
        · intro w hSw
          (try dsimp only at hSw); have q0 := hSw.1.cell 1 (by simp); have q2 := hSw.2; simp only [List.getElem_cons_zero, List.getElem_cons_succ] at q0
          go_simp
          all_goals (try with_reducible rfl)
        (try simp only [Act.put, List.setIfInBounds_toArray, List.set_cons_zero, List.set_cons_succ])
        refine wpAnyH_take (i := 1) (oi := ⟨some 45, _, _, _, _, _⟩) (v := ?_) rfl (by kernel_rfl) (by kernel_rfl) (by kernel_rfl) (fun _ _ _ h => h) (Or.inl ⟨by rfl, ?_⟩) (by assumption) ?_
        rotate_left
        · intro w hSw
          (try dsimp only at hSw); have q0 := hSw.1.cell 1 (by simp); have q2 := hSw.2; simp only [List.getElem_cons_zero, List.getElem_cons_succ] at q0
          go_simp
          all_goals (try with_reducible rfl)
        (try simp only [Act.put, List.setIfInBounds_toArray, List.set_cons_zero, List.set_cons_succ])
        refine wpAnyH_take (i := 2) (oi := ⟨some 46, _, _, _, _, _⟩) (v := ?_) rfl (by kernel_rfl) (by kernel_rfl) (by kernel_rfl) (fun _ _ _ h => h) (Or.inl ⟨by rfl, ?_⟩) (by assumption) ?_
        rotate_left
        · intro w hSw
          (try dsimp only at hSw); have q0 := hSw.1.cell 1 (by simp); have q2 := hSw.2; simp only [List.getElem_cons_zero, List.getElem_cons_succ] at q0
          go_simp
          all_goals (try with_reducible rfl)
        (try simp only [Act.put, List.setIfInBounds_toArray, List.set_cons_zero, List.set_cons_succ])
        refine wpAnyH_take (i := 3) (oi := ⟨some 47, _, _, _, _, _⟩) (v := ?_) rfl (by kernel_rfl) (by kernel_rfl) (by kernel_rfl) (fun _ _ _ h => h) (Or.inl ⟨by rfl, ?_⟩) (by assumption) ?_
        rotate_left
        · intro w hSw
          (try dsimp only at hSw); have q0 := hSw.1.cell 1 (by simp); have q2 := hSw.2; simp only [List.getElem_cons_zero, List.getElem_cons_succ] at q0
          go_simp
          all_goals (try with_reducible rfl)
        (try simp only [Act.put, List.setIfInBounds_toArray, List.set_cons_zero, List.set_cons_succ])
        refine wpAnyH_take (i := 4) (oi := ⟨some 48, _, _, _, _, _⟩) (v := ?_) rfl (by kernel_rfl) (by kernel_rfl) (by kernel_rfl) (fun _ _ _ h => h) (Or.inl ⟨by rfl, ?_⟩) (by assumption) ?_
        rotate_left
        · intro w hSw
          (try dsimp only at hSw); have q0 := hSw.1.cell 1 (by simp); have q2 := hSw.2; simp only [List.getElem_cons_zero, List.getElem_cons_succ] at q0
          go_simp
          all_goals (try with_reducible rfl)
        (try simp only [Act.put, List.setIfInBounds_toArray, List.set_cons_zero, List.set_cons_succ])
        refine wpAnyH_take (i := 5) (oi := ⟨some 49, _, _, _, _, _⟩) (v := ?_) rfl (by kernel_rfl) (by kernel_rfl) (by kernel_rfl) (fun _ _ _ h => h) (Or.inl ⟨by rfl, ?_⟩) (by assumption) ?_
        rotate_left
        · intro w hSw
          (try dsimp only at hSw); have q0 := hSw.1.cell 1 (by simp); have q2 := hSw.2; simp only [List.getElem_cons_zero, List.getElem_cons_succ] at q0
          go_simp
          all_goals (try with_reducible rfl)
        (try simp only [Act.put, List.setIfInBounds_toArray, List.set_cons_zero, List.set_cons_succ])
        refine wpAnyH_take (i := 6) (oi := ⟨some 50, _, _, _, _, _⟩) (v := ?_) rfl (by kernel_rfl) (by kernel_rfl) (by kernel_rfl) (fun _ _ _ h => h) (Or.inl ⟨by rfl, ?_⟩) (by assumption) ?_
        rotate_left
        · intro w hSw
          (try dsimp only at hSw); have q0 := hSw.1.cell 1 (by simp); have q2 := hSw.2; simp only [List.getElem_cons_zero, List.getElem_cons_succ] at q0
          go_simp
          all_goals (try with_reducible rfl)
        (try simp only [Act.put, List.setIfInBounds_toArray, List.set_cons_zero, List.set_cons_succ])
        refine wpAnyH_take (i := 7) (oi := ⟨some 51, _, _, _, _, _⟩) (v := undef) rfl (by kernel_rfl) (by kernel_rfl) (by kernel_rfl) (fun _ _ _ h => h) (Or.inr ⟨by rfl, rfl⟩) (by assumption) ?_
        (try simp only [Act.put, List.setIfInBounds_toArray, List.set_cons_zero, List.set_cons_succ])
        refine wpAnyH_take (i := 8) (oi := ⟨some 52, _, _, _, _, _⟩) (v := undef) rfl (by kernel_rfl) (by kernel_rfl) (by kernel_rfl) (fun _ _ _ h => h) (Or.inr ⟨by rfl, rfl⟩) (by assumption) ?_
        (try simp only [Act.put, List.setIfInBounds_toArray, List.set_cons_zero, List.set_cons_succ])
        refine wpAnyH_take (i := 9) (oi := ⟨some 53, _, _, _, _, _⟩) (v := undef) rfl (by kernel_rfl) (by kernel_rfl) (by kernel_rfl) (fun _ _ _ h => h) (Or.inr ⟨by rfl, rfl⟩) (by assumption) ?_
        (try simp only [Act.put, List.setIfInBounds_toArray, List.set_cons_zero, List.set_cons_succ])
        refine wpAnyH_take (i := 10) (oi := ⟨some 54, _, _, _, _, _⟩) (v := undef) rfl (by kernel_rfl) (by kernel_rfl) (by kernel_rfl) (fun _ _ _ h => h) (Or.inr ⟨by rfl, rfl⟩) (by assumption) ?_
        (try simp only [Act.put, List.setIfInBounds_toArray, List.set_cons_zero, List.set_cons_succ])
        refine wpAnyH_take (i := 11) (oi := ⟨some 55, _, _, _, _, _⟩) (v := undef) rfl (by kernel_rfl) (by kernel_rfl) (by kernel_rfl) (fun _ _ _ h => h) (Or.inr ⟨by rfl, rfl⟩) (by assumption) ?_
        (try simp only [Act.put, List.setIfInBounds_toArray, List.set_cons_zero, List.set_cons_succ])
        refine wpAnyH_take (i := 12) (oi := ⟨some 56, _, _, _, _, _⟩) (v := undef) rfl (by kernel_rfl) (by kernel_rfl) (by kernel_rfl) (fun _ _ _ h => h) (Or.inr ⟨by rfl, rfl⟩) (by assumption) ?_
        (try simp only [Act.put, List.setIfInBounds_toArray, List.set_cons_zero, List.set_cons_succ])
        refine wpAnyH_take (i := 13) (oi := ⟨some 57, _, _, _, _, _⟩) (v := undef) rfl (by kernel_rfl) (by kernel_rfl) (by kernel_rfl) (fun _ _ _ h => h) (Or.inr ⟨by rfl, rfl⟩) (by assumption) ?_
        (try simp only [Act.put, List.setIfInBounds_toArray, List.set_cons_zero, List.set_cons_succ])
        refine wpAnyH_take (i := 14) (oi := ⟨some 58, _, _, _, _, _⟩) (v := undef) rfl (by kernel_rfl) (by kernel_rfl) (by kernel_rfl) (fun _ _ _ h => h) (Or.inr ⟨by rfl, rfl⟩) (by assumption) ?_
        (try simp only [Act.put, List.setIfInBounds_toArray, List.set_cons_zero, List.set_cons_succ])
        refine wpAnyH_take (i := 15) (oi := ⟨some 59, _, _, _, _, _⟩) (v := undef) rfl (by kernel_rfl) (by kernel_rfl) (by kernel_rfl) (fun _ _ _ h => h) (Or.inr ⟨by rfl, rfl⟩) (by assumption) ?_
        (try simp only [Act.put, List.setIfInBounds_toArray, List.set_cons_zero, List.set_cons_succ])
        refine wpAnyH_take (i := 16) (oi := ⟨some 60, _, _, _, _, _⟩) (v := undef) rfl (by kernel_rfl) (by kernel_rfl) (by kernel_rfl) (fun _ _ _ h => h) (Or.inr ⟨by rfl, rfl⟩) (by assumption) ?_
        (try simp only [Act.put, List.setIfInBounds_toArray, List.set_cons_zero, List.set_cons_succ])
        refine wpAnyH_take (i := 17) (oi := ⟨some 61, _, _, _, _, _⟩) (v := undef) rfl (by kernel_rfl) (by kernel_rfl) (by kernel_rfl) (fun _ _ _ h => h) (Or.inr ⟨by rfl, rfl⟩) (by assumption) ?_
        (try simp only [Act.put, List.setIfInBounds_toArray, List.set_cons_zero, List.set_cons_succ])
        refine wpAnyH_take (i := 18) (oi := ⟨some 62, _, _, _, _, _⟩) (v := ?_) rfl (by kernel_rfl) (by kernel_rfl) (by kernel_rfl) (fun _ _ _ h => h) (Or.inl ⟨by rfl, ?_⟩) (by assumption) ?_
        rotate_left
        · intro w hSw
          (try dsimp only at hSw); have q0 := hSw.1.cell 1 (by simp); have q2 := hSw.2; simp only [List.getElem_cons_zero, List.getElem_cons_succ] at q0
          go_simp
          all_goals (try with_reducible rfl)
        (try simp only [Act.put, List.setIfInBounds_toArray, List.set_cons_zero, List.set_cons_succ])
        refine wpAnyH_done (by kernel_rfl) ?_ _
        clear hSw7
        go_wp2_with fail
        have HY := Lib.hid HQ6.out.drew
        clear HQ6
        refine wp_region_held_drew (S := (fun w' => Kn.Own w' fr [.int .i64 0, .int .i64 0, .int .i64 0, .slice none 0 0, .slice none 0 0] ∧ Kn.Own w' fn [.int .i64 0, .int .i64 0, .int .i64 0, .int .i64 0, .int .i64 0])) (by kernel_rfl) ⟨HY.out.boxi 2 rfl, HY.out.boxi 1 rfl⟩ (fun hSw0 => ?_)
        generalize v7.drew = wz at *
        refine wpAnyH_take (i := 0) (oi := ⟨some 63, _, _, _, _, _⟩) (v := (.agg #[.int .i64 0, .int .i64 0, .int .i64 0, .slice none 0 0, .slice none 0 0])) rfl (by kernel_rfl) (by kernel_rfl) (by kernel_rfl) (fun _ _ _ h => h) (Or.inl ⟨by rfl, ?_⟩) (by assumption) ?_
        · intro w hSw
          have q0 := hSw.1
          have q00 := q0.cell 0 (by simp)
          have q01 := q0.cell 1 (by simp)
          have q02 := q0.cell 2 (by simp)
          have q03 := q0.cell 3 (by simp)
          have q04 := q0.cell 4 (by simp)
          simp only [List.getElem_cons_zero, List.getElem_cons_succ] at q00 q01 q02 q03 q04
          clear q0
          go_simp
        (try simp only [Act.put, List.setIfInBounds_toArray, List.set_cons_zero, List.set_cons_succ])
        refine wpAnyH_take (i := 1) (oi := ⟨some 64, _, _, _, _, _⟩) (v := (.agg #[.int .i64 0, .int .i64 0, .int .i64 0, .int .i64 0, .int .i64 0])) rfl (by kernel_rfl) (by kernel_rfl) (by kernel_rfl) (fun _ _ _ h => h) (Or.inl ⟨by rfl, ?_⟩) (by assumption) ?_
        · intro w hSw
          have q0 := hSw.2
          have q00 := q0.cell 0 (by simp)
          have q01 := q0.cell 1 (by simp)
          have q02 := q0.cell 2 (by simp)
          have q03 := q0.cell 3 (by simp)
          have q04 := q0.cell 4 (by simp)
          simp only [List.getElem_cons_zero, List.getElem_cons_succ] at q00 q01 q02 q03 q04
          clear q0
          go_simp
        (try simp only [Act.put, List.setIfInBounds_toArray, List.set_cons_zero, List.set_cons_succ])
        refine wpAnyH_ready (rs := [2]) (by kernel_rfl) (by simp) ?_
        refine AllReadyH.cons (o := ⟨none, _, _, _, _, _⟩) rfl (fun K hK => ?_) AllReadyH.nil
        refine step_store_own rfl 56 (.tmp 4) (.tmp 63) rfl fr [.int .i64 0, .int .i64 0, .int .i64 0, .slice none 0 0, .slice none 0 0] [.int .i64 0, .int .i64 0, .int .i64 0, .slice none 0 0, .slice none 0 0] (by kernel_rfl) rfl rfl (HY.out.boxi 2 rfl) rfl (by intro u hu; simp at hu; rcases hu with rfl | rfl <;> rfl) ?_
        intro wa ho hO
        have HY1 := Lib.hid (HY.out.call1 2 rfl ho hO)
        clear ho hO HY
        refine hK.out _ _ ⟨HY1.out.boxi 2 rfl, HY1.out.boxi 1 rfl⟩ (fun hSn => ?_)
        clear hK K hSw0
        have hSw0 := hSn
        clear hSn
        (try simp only [Act.put, List.setIfInBounds_toArray, List.set_cons_zero, List.set_cons_succ])
        refine wpAnyH_ready (rs := [3]) (by kernel_rfl) (by simp) ?_
        refine AllReadyH.cons (o := ⟨none, _, _, _, _, _⟩) rfl (fun K hK => ?_) AllReadyH.nil
        refine step_store_own rfl 32 (.tmp 5) (.tmp 64) rfl fn [.int .i64 0, .int .i64 0, .int .i64 0, .int .i64 0, .int .i64 0] [.int .i64 0, .int .i64 0, .int .i64 0, .int .i64 0, .int .i64 0] (by kernel_rfl) rfl rfl (HY1.out.boxi 1 rfl) rfl (by intro u hu; simp at hu; subst hu; rfl) ?_
        intro wy ho hO
        have HY2 := Lib.hid (HY1.out.call1 1 rfl ho hO)
        clear ho hO HY1
        refine hK.out _ _ ⟨HY2.out.boxi 2 rfl, HY2.out.boxi 1 rfl⟩ (fun hSn => ?_)
        clear hK K hSw0
        have hSw0 := hSn
        clear hSn
        (try simp only [Act.put, List.setIfInBounds_toArray, List.set_cons_zero, List.set_cons_succ])
        refine wpAnyH_take (i := 4) (oi := ⟨some 6, _, _, _, _, _⟩) (v := ?_) rfl (by kernel_rfl) (by kernel_rfl) (by kernel_rfl) (fun _ _ _ h => h) (Or.inl ⟨by rfl, ?_⟩) (by assumption) ?_
        rotate_left
        · intro w hSw
          (try dsimp only at hSw)
          go_simp
          all_goals (try with_reducible rfl)
        (try simp only [Act.put, List.setIfInBounds_toArray, List.set_cons_zero, List.set_cons_succ])
        refine wpAnyH_done (by kernel_rfl) ?_ _
        clear hSw0
        have HFOL := Lib.hid (follow_size (d := d) (c := cf) (p := q) ⟨ho0, by omega⟩ HA.out HZ.out HN.out (.inl rfl))
        have br := HY2.out.boxi 2 rfl
        have bn := HY2.out.boxi 1 rfl
        have r0 := br.cell 0 (by simp)
        have r1 := br.cell 1 (by simp)
        have r2 := br.cell 2 (by simp)
        have r3 := br.cell 3 (by simp)
        have r4 := br.cell 4 (by simp)
        simp only [List.getElem_cons_zero, List.getElem_cons_succ] at r0 r1 r2 r3 r4
        have n0 := bn.cell 0 (by simp)
        have n1 := bn.cell 1 (by simp)
        have n2 := bn.cell 2 (by simp)
        have n3 := bn.cell 3 (by simp)
        have n4 := bn.cell 4 (by simp)
        simp only [List.getElem_cons_zero, List.getElem_cons_succ] at n0 n1 n2 n3 n4
        clear br bn
        go_wp2
        (try simp only [Exit.inBlock, Exit.then])
        refine bodyPost_ret (v := .tuple #[.agg #[.int .i64 0, .int .i64 0, .int .i64 0, .slice none 0 0, .slice none 0 0], .agg #[.int .i64 0, .int .i64 0, .int .i64 0, .int .i64 0, .int .i64 0], .bool false]) ?_ rfl ?_
        · simp only [results, HRES.out]
          go_simp
        · have HYs : Wk w0 wb wy ((S, SB pd.D gb p own e 0) :: (fn, [.int .i64 0, .int .i64 0, .int .i64 0, .int .i64 0, .int .i64 0]) :: (fr, [.int .i64 0, .int .i64 0, .int .i64 0, .slice none 0 0, .slice none 0 0]) :: (fq, [.int .i64 q.s, .int .i64 q.o, .int .i64 q.l, .int .i64 q.p, .int .i64 q.m]) :: L) (_ :: G) F := HY2.out
          exact OneSays.no HFOL.out ((HYs.sub (L' := (S, SB pd.D gb p own e 0) :: L) (F' := F) (.cons_cons _ (.cons _ (.cons _ (.cons _ (List.Sublist.refl _))))) (fun f hf => hf)).subG (G' := G) (by simp))
      · have hN1 : ((N : Int) == 0) = false := by simp; omega
        have hwN := IntWalk.i64_in (q.o + (N : Int)) (by omega)
        by_cases hfar2 : cf.l < q.o + (N : Int)
        · refine wpAnyH_take (i := 0) (oi := ⟨some 44, _, _, _, _, _⟩) (v := ?_) rfl (by kernel_rfl) (by kernel_rfl) (by kernel_rfl) (fun _ _ _ h => h) (Or.inl ⟨by rfl, ?_⟩) (by assumption) ?_
          rotate_left
          · intro w hSw
            (try dsimp only at hSw); have q0 := hSw.1.cell 1 (by simp); have q2 := hSw.2; simp only [List.getElem_cons_zero, List.getElem_cons_succ] at q0
            go_simp
            all_goals (try with_reducible rfl)
          (try simp only [Act.put, List.setIfInBounds_toArray, List.set_cons_zero, List.set_cons_succ])
          refine wpAnyH_take (i := 1) (oi := ⟨some 45, _, _, _, _, _⟩) (v := ?_) rfl (by kernel_rfl) (by kernel_rfl) (by kernel_rfl) (fun _ _ _ h => h) (Or.inl ⟨by rfl, ?_⟩) (by assumption) ?_
          rotate_left
          · intro w hSw
            (try dsimp only at hSw); have q0 := hSw.1.cell 1 (by simp); have q2 := hSw.2; simp only [List.getElem_cons_zero, List.getElem_cons_succ] at q0
            go_simp
            all_goals (try with_reducible rfl)
          (try simp only [Act.put, List.setIfInBounds_toArray, List.set_cons_zero, List.set_cons_succ])
          refine wpAnyH_take (i := 2) (oi := ⟨some 46, _, _, _, _, _⟩) (v := ?_) rfl (by kernel_rfl) (by kernel_rfl) (by kernel_rfl) (fun _ _ _ h => h) (Or.inl ⟨by rfl, ?_⟩) (by assumption) ?_
          rotate_left
          · intro w hSw
            (try dsimp only at hSw); have q0 := hSw.1.cell 1 (by simp); have q2 := hSw.2; simp only [List.getElem_cons_zero, List.getElem_cons_succ] at q0
            go_simp
            all_goals (try with_reducible rfl)
          (try simp only [Act.put, List.setIfInBounds_toArray, List.set_cons_zero, List.set_cons_succ])
          refine wpAnyH_take (i := 3) (oi := ⟨some 47, _, _, _, _, _⟩) (v := ?_) rfl (by kernel_rfl) (by kernel_rfl) (by kernel_rfl) (fun _ _ _ h => h) (Or.inl ⟨by rfl, ?_⟩) (by assumption) ?_
          rotate_left
          · intro w hSw
            (try dsimp only at hSw); have q0 := hSw.1.cell 1 (by simp); have q2 := hSw.2; simp only [List.getElem_cons_zero, List.getElem_cons_succ] at q0
            go_simp
            all_goals (try with_reducible rfl)
          (try simp only [Act.put, List.setIfInBounds_toArray, List.set_cons_zero, List.set_cons_succ])
          refine wpAnyH_take (i := 4) (oi := ⟨some 48, _, _, _, _, _⟩) (v := ?_) rfl (by kernel_rfl) (by kernel_rfl) (by kernel_rfl) (fun _ _ _ h => h) (Or.inl ⟨by rfl, ?_⟩) (by assumption) ?_
          rotate_left
          · intro w hSw
            (try dsimp only at hSw); have q0 := hSw.1.cell 1 (by simp); have q2 := hSw.2; simp only [List.getElem_cons_zero, List.getElem_cons_succ] at q0
            go_simp
            all_goals (try with_reducible rfl)
          (try simp only [Act.put, List.setIfInBounds_toArray, List.set_cons_zero, List.set_cons_succ])
          refine wpAnyH_take (i := 5) (oi := ⟨some 49, _, _, _, _, _⟩) (v := ?_) rfl (by kernel_rfl) (by kernel_rfl) (by kernel_rfl) (fun _ _ _ h => h) (Or.inl ⟨by rfl, ?_⟩) (by assumption) ?_
          rotate_left
          · intro w hSw
            (try dsimp only at hSw); have q0 := hSw.1.cell 1 (by simp); have q2 := hSw.2; simp only [List.getElem_cons_zero, List.getElem_cons_succ] at q0
            go_simp
            all_goals (try with_reducible rfl)
          (try simp only [Act.put, List.setIfInBounds_toArray, List.set_cons_zero, List.set_cons_succ])
          refine wpAnyH_take (i := 6) (oi := ⟨some 50, _, _, _, _, _⟩) (v := ?_) rfl (by kernel_rfl) (by kernel_rfl) (by kernel_rfl) (fun _ _ _ h => h) (Or.inl ⟨by rfl, ?_⟩) (by assumption) ?_
          rotate_left
          · intro w hSw
            (try dsimp only at hSw); have q0 := hSw.1.cell 1 (by simp); have q2 := hSw.2; simp only [List.getElem_cons_zero, List.getElem_cons_succ] at q0
            go_simp
            all_goals (try with_reducible rfl)
          (try simp only [Act.put, List.setIfInBounds_toArray, List.set_cons_zero, List.set_cons_succ])
          refine wpAnyH_take (i := 7) (oi := ⟨some 51, _, _, _, _, _⟩) (v := ?_) rfl (by kernel_rfl) (by kernel_rfl) (by kernel_rfl) (fun _ _ _ h => h) (Or.inl ⟨by rfl, ?_⟩) (by assumption) ?_
          rotate_left
          · intro w hSw
            (try dsimp only at hSw); have q0 := hSw.1.cell 1 (by simp); have q2 := hSw.2; simp only [List.getElem_cons_zero, List.getElem_cons_succ] at q0
            go_simp
            all_goals (try with_reducible rfl)
          (try simp only [Act.put, List.setIfInBounds_toArray, List.set_cons_zero, List.set_cons_succ])
          refine wpAnyH_take (i := 8) (oi := ⟨some 52, _, _, _, _, _⟩) (v := ?_) rfl (by kernel_rfl) (by kernel_rfl) (by kernel_rfl) (fun _ _ _ h => h) (Or.inl ⟨by rfl, ?_⟩) (by assumption) ?_
          rotate_left
          · intro w hSw
            (try dsimp only at hSw); have q0 := hSw.1.cell 1 (by simp); have q2 := hSw.2; simp only [List.getElem_cons_zero, List.getElem_cons_succ] at q0
            go_simp
            all_goals (try with_reducible rfl)
          (try simp only [Act.put, List.setIfInBounds_toArray, List.set_cons_zero, List.set_cons_succ])
          refine wpAnyH_take (i := 9) (oi := ⟨some 53, _, _, _, _, _⟩) (v := ?_) rfl (by kernel_rfl) (by kernel_rfl) (by kernel_rfl) (fun _ _ _ h => h) (Or.inl ⟨by rfl, ?_⟩) (by assumption) ?_
          rotate_left
          · intro w hSw
            (try dsimp only at hSw); have q0 := hSw.1.cell 1 (by simp); have q2 := hSw.2; simp only [List.getElem_cons_zero, List.getElem_cons_succ] at q0
            go_simp
            all_goals (try with_reducible rfl)
          (try simp only [Act.put, List.setIfInBounds_toArray, List.set_cons_zero, List.set_cons_succ])
          refine wpAnyH_take (i := 10) (oi := ⟨some 54, _, _, _, _, _⟩) (v := ?_) rfl (by kernel_rfl) (by kernel_rfl) (by kernel_rfl) (fun _ _ _ h => h) (Or.inl ⟨by rfl, ?_⟩) (by assumption) ?_
          rotate_left
          · intro w hSw
            (try dsimp only at hSw); have q0 := hSw.1.cell 1 (by simp); have q2 := hSw.2; simp only [List.getElem_cons_zero, List.getElem_cons_succ] at q0
            go_simp
            all_goals (try with_reducible rfl)
          (try simp only [Act.put, List.setIfInBounds_toArray, List.set_cons_zero, List.set_cons_succ])
          refine wpAnyH_take (i := 11) (oi := ⟨some 55, _, _, _, _, _⟩) (v := ?_) rfl (by kernel_rfl) (by kernel_rfl) (by kernel_rfl) (fun _ _ _ h => h) (Or.inl ⟨by rfl, ?_⟩) (by assumption) ?_
          rotate_left
          · intro w hSw
            (try dsimp only at hSw); have q0 := hSw.1.cell 1 (by simp); have q2 := hSw.2; simp only [List.getElem_cons_zero, List.getElem_cons_succ] at q0
            go_simp
            all_goals (try with_reducible rfl)
          (try simp only [Act.put, List.setIfInBounds_toArray, List.set_cons_zero, List.set_cons_succ])
          refine wpAnyH_take (i := 12) (oi := ⟨some 56, _, _, _, _, _⟩) (v := ?_) rfl (by kernel_rfl) (by kernel_rfl) (by kernel_rfl) (fun _ _ _ h => h) (Or.inl ⟨by rfl, ?_⟩) (by assumption) ?_
          rotate_left
          · intro w hSw
            (try dsimp only at hSw); have q0 := hSw.1.cell 1 (by simp); have q2 := hSw.2; simp only [List.getElem_cons_zero, List.getElem_cons_succ] at q0
            go_simp
            all_goals (try with_reducible rfl)
          (try simp only [Act.put, List.setIfInBounds_toArray, List.set_cons_zero, List.set_cons_succ])
          refine wpAnyH_take (i := 13) (oi := ⟨some 57, _, _, _, _, _⟩) (v := ?_) rfl (by kernel_rfl) (by kernel_rfl) (by kernel_rfl) (fun _ _ _ h => h) (Or.inl ⟨by rfl, ?_⟩) (by assumption) ?_
          rotate_left
          · intro w hSw
            (try dsimp only at hSw); have q0 := hSw.1.cell 1 (by simp); have q2 := hSw.2; simp only [List.getElem_cons_zero, List.getElem_cons_succ] at q0
            go_simp
            all_goals (try with_reducible rfl)
          (try simp only [Act.put, List.setIfInBounds_toArray, List.set_cons_zero, List.set_cons_succ])
          refine wpAnyH_take (i := 14) (oi := ⟨some 58, _, _, _, _, _⟩) (v := ?_) rfl (by kernel_rfl) (by kernel_rfl) (by kernel_rfl) (fun _ _ _ h => h) (Or.inl ⟨by rfl, ?_⟩) (by assumption) ?_
          rotate_left
          · intro w hSw
            (try dsimp only at hSw); have q0 := hSw.1.cell 1 (by simp); have q2 := hSw.2; simp only [List.getElem_cons_zero, List.getElem_cons_succ] at q0
            go_simp
            all_goals (try with_reducible rfl)
          (try simp only [Act.put, List.setIfInBounds_toArray, List.set_cons_zero, List.set_cons_succ])
          refine wpAnyH_ready (rs := [15]) (by kernel_rfl) (by simp) ?_
          refine AllReadyH.cons (o := ⟨some 59, _, _, _, _, _⟩) rfl (fun K hK => ?_) AllReadyH.nil
          go_simp
          refine (geom_config_any gb cf.b cf.s cf.l _ (HQ6.out.fact (fun W => GeoAt W gb cf.b cf.s cf.l) HG.out)).mono ?_
          rintro en v8 ⟨rfl, hO⟩
          have HQ7 := Lib.hid (HQ6.out.keep0 hO)
          clear hO HQ6
          have HQ6 := Lib.hid HQ7.out
          clear HQ7
          refine hK.out _ _ ⟨HQ6.out.boxi 3 rfl, by simpa [SB] using (HQ6.out.boxi 0 (p := S) rfl).cell 1 (by simp [SB])⟩ (fun hSw8 => ?_)
          clear hK K
          clear hSw7
          (try simp only [Act.put, List.setIfInBounds_toArray, List.set_cons_zero, List.set_cons_succ])
          refine wpAnyH_take (i := 16) (oi := ⟨some 60, _, _, _, _, _⟩) (v := ?_) rfl (by kernel_rfl) (by kernel_rfl) (by kernel_rfl) (fun _ _ _ h => h) (Or.inl ⟨by rfl, ?_⟩) (by assumption) ?_
          rotate_left
          · intro w hSw
            (try dsimp only at hSw); have q0 := hSw.1.cell 1 (by simp); have q2 := hSw.2; simp only [List.getElem_cons_zero, List.getElem_cons_succ] at q0
            go_simp
            all_goals (try with_reducible rfl)
          (try simp only [Act.put, List.setIfInBounds_toArray, List.set_cons_zero, List.set_cons_succ])
          refine wpAnyH_take (i := 17) (oi := ⟨some 61, _, _, _, _, _⟩) (v := ?_) rfl (by kernel_rfl) (by kernel_rfl) (by kernel_rfl) (fun _ _ _ h => h) (Or.inl ⟨by rfl, ?_⟩) (by assumption) ?_
          rotate_left
          · intro w hSw
            (try dsimp only at hSw); have q0 := hSw.1.cell 1 (by simp); have q2 := hSw.2; simp only [List.getElem_cons_zero, List.getElem_cons_succ] at q0
            go_simp
            all_goals (try with_reducible rfl)
          (try simp only [Act.put, List.setIfInBounds_toArray, List.set_cons_zero, List.set_cons_succ])
          refine wpAnyH_take (i := 18) (oi := ⟨some 62, _, _, _, _, _⟩) (v := ?_) rfl (by kernel_rfl) (by kernel_rfl) (by kernel_rfl) (fun _ _ _ h => h) (Or.inl ⟨by rfl, ?_⟩) (by assumption) ?_
          rotate_left
          · intro w hSw
            (try dsimp only at hSw); have q0 := hSw.1.cell 1 (by simp); have q2 := hSw.2; simp only [List.getElem_cons_zero, List.getElem_cons_succ] at q0
            go_simp
            all_goals (try with_reducible rfl)
          (try simp only [Act.put, List.setIfInBounds_toArray, List.set_cons_zero, List.set_cons_succ])
          refine wpAnyH_done (by kernel_rfl) ?_ _
          clear hSw8
          go_wp2_with fail
          have HY := Lib.hid HQ6.out.drew
          clear HQ6
          refine wp_region_held_drew (S := (fun w' => Kn.Own w' fr [.int .i64 0, .int .i64 0, .int .i64 0, .slice none 0 0, .slice none 0 0] ∧ Kn.Own w' fn [.int .i64 0, .int .i64 0, .int .i64 0, .int .i64 0, .int .i64 0])) (by kernel_rfl) ⟨HY.out.boxi 2 rfl, HY.out.boxi 1 rfl⟩ (fun hSw0 => ?_)
          generalize v8.drew = wz at *
          refine wpAnyH_take (i := 0) (oi := ⟨some 63, _, _, _, _, _⟩) (v := (.agg #[.int .i64 0, .int .i64 0, .int .i64 0, .slice none 0 0, .slice none 0 0])) rfl (by kernel_rfl) (by kernel_rfl) (by kernel_rfl) (fun _ _ _ h => h) (Or.inl ⟨by rfl, ?_⟩) (by assumption) ?_
          · intro w hSw
            have q0 := hSw.1
            have q00 := q0.cell 0 (by simp)
            have q01 := q0.cell 1 (by simp)
            have q02 := q0.cell 2 (by simp)
            have q03 := q0.cell 3 (by simp)
            have q04 := q0.cell 4 (by simp)
            simp only [List.getElem_cons_zero, List.getElem_cons_succ] at q00 q01 q02 q03 q04
            clear q0
            go_simp
          (try simp only [Act.put, List.setIfInBounds_toArray, List.set_cons_zero, List.set_cons_succ])
          refine wpAnyH_take (i := 1) (oi := ⟨some 64, _, _, _, _, _⟩) (v := (.agg #[.int .i64 0, .int .i64 0, .int .i64 0, .int .i64 0, .int .i64 0])) rfl (by kernel_rfl) (by kernel_rfl) (by kernel_rfl) (fun _ _ _ h => h) (Or.inl ⟨by rfl, ?_⟩) (by assumption) ?_
          · intro w hSw
            have q0 := hSw.2
            have q00 := q0.cell 0 (by simp)
            have q01 := q0.cell 1 (by simp)
            have q02 := q0.cell 2 (by simp)
            have q03 := q0.cell 3 (by simp)
            have q04 := q0.cell 4 (by simp)
            simp only [List.getElem_cons_zero, List.getElem_cons_succ] at q00 q01 q02 q03 q04
            clear q0
            go_simp
          (try simp only [Act.put, List.setIfInBounds_toArray, List.set_cons_zero, List.set_cons_succ])
          refine wpAnyH_ready (rs := [2]) (by kernel_rfl) (by simp) ?_
          refine AllReadyH.cons (o := ⟨none, _, _, _, _, _⟩) rfl (fun K hK => ?_) AllReadyH.nil
          refine step_store_own rfl 56 (.tmp 4) (.tmp 63) rfl fr [.int .i64 0, .int .i64 0, .int .i64 0, .slice none 0 0, .slice none 0 0] [.int .i64 0, .int .i64 0, .int .i64 0, .slice none 0 0, .slice none 0 0] (by kernel_rfl) rfl rfl (HY.out.boxi 2 rfl) rfl (by intro u hu; simp at hu; rcases hu with rfl | rfl <;> rfl) ?_
          intro wa ho hO
          have HY1 := Lib.hid (HY.out.call1 2 rfl ho hO)
          clear ho hO HY
          refine hK.out _ _ ⟨HY1.out.boxi 2 rfl, HY1.out.boxi 1 rfl⟩ (fun hSn => ?_)
          clear hK K hSw0
          have hSw0 := hSn
          clear hSn
          (try simp only [Act.put, List.setIfInBounds_toArray, List.set_cons_zero, List.set_cons_succ])
          refine wpAnyH_ready (rs := [3]) (by kernel_rfl) (by simp) ?_
          refine AllReadyH.cons (o := ⟨none, _, _, _, _, _⟩) rfl (fun K hK => ?_) AllReadyH.nil
          refine step_store_own rfl 32 (.tmp 5) (.tmp 64) rfl fn [.int .i64 0, .int .i64 0, .int .i64 0, .int .i64 0, .int .i64 0] [.int .i64 0, .int .i64 0, .int .i64 0, .int .i64 0, .int .i64 0] (by kernel_rfl) rfl rfl (HY1.out.boxi 1 rfl) rfl (by intro u hu; simp at hu; subst hu; rfl) ?_
          intro wy ho hO
          have HY2 := Lib.hid (HY1.out.call1 1 rfl ho hO)
          clear ho hO HY1
          refine hK.out _ _ ⟨HY2.out.boxi 2 rfl, HY2.out.boxi 1 rfl⟩ (fun hSn => ?_)
          clear hK K hSw0
          have hSw0 := hSn
          clear hSn
          (try simp only [Act.put, List.setIfInBounds_toArray, List.set_cons_zero, List.set_cons_succ])
          refine wpAnyH_take (i := 4) (oi := ⟨some 6, _, _, _, _, _⟩) (v := ?_) rfl (by kernel_rfl) (by kernel_rfl) (by kernel_rfl) (fun _ _ _ h => h) (Or.inl ⟨by rfl, ?_⟩) (by assumption) ?_
          rotate_left
          · intro w hSw
            (try dsimp only at hSw)
            go_simp
            all_goals (try with_reducible rfl)
          (try simp only [Act.put, List.setIfInBounds_toArray, List.set_cons_zero, List.set_cons_succ])
          refine wpAnyH_done (by kernel_rfl) ?_ _
          clear hSw0
          have HFOL := Lib.hid (follow_size (d := d) (c := cf) (p := q) ⟨ho0, by omega⟩ HA.out HZ.out HN.out (.inr hfar2))
          have br := HY2.out.boxi 2 rfl
          have bn := HY2.out.boxi 1 rfl
          have r0 := br.cell 0 (by simp)
          have r1 := br.cell 1 (by simp)
          have r2 := br.cell 2 (by simp)
          have r3 := br.cell 3 (by simp)
          have r4 := br.cell 4 (by simp)
          simp only [List.getElem_cons_zero, List.getElem_cons_succ] at r0 r1 r2 r3 r4
          have n0 := bn.cell 0 (by simp)
          have n1 := bn.cell 1 (by simp)
          have n2 := bn.cell 2 (by simp)
          have n3 := bn.cell 3 (by simp)
          have n4 := bn.cell 4 (by simp)
          simp only [List.getElem_cons_zero, List.getElem_cons_succ] at n0 n1 n2 n3 n4
          clear br bn
          go_wp2
          (try simp only [Exit.inBlock, Exit.then])
          refine bodyPost_ret (v := .tuple #[.agg #[.int .i64 0, .int .i64 0, .int .i64 0, .slice none 0 0, .slice none 0 0], .agg #[.int .i64 0, .int .i64 0, .int .i64 0, .int .i64 0, .int .i64 0], .bool false]) ?_ rfl ?_
          · simp only [results, HRES.out]
            go_simp
          · have HYs : Wk w0 wb wy ((S, SB pd.D gb p own e 0) :: (fn, [.int .i64 0, .int .i64 0, .int .i64 0, .int .i64 0, .int .i64 0]) :: (fr, [.int .i64 0, .int .i64 0, .int .i64 0, .slice none 0 0, .slice none 0 0]) :: (fq, [.int .i64 q.s, .int .i64 q.o, .int .i64 q.l, .int .i64 q.p, .int .i64 q.m]) :: L) (_ :: G) F := HY2.out
            exact OneSays.no HFOL.out ((HYs.sub (L' := (S, SB pd.D gb p own e 0) :: L) (F' := F) (.cons_cons _ (.cons _ (.cons _ (.cons _ (List.Sublist.refl _))))) (fun f hf => hf)).subG (G' := G) (by simp))
        · refine wpAnyH_take (i := 0) (oi := ⟨some 44, _, _, _, _, _⟩) (v := ?_) rfl (by kernel_rfl) (by kernel_rfl) (by kernel_rfl) (fun _ _ _ h => h) (Or.inl ⟨by rfl, ?_⟩) (by assumption) ?_
          rotate_left
          · intro w hSw
            (try dsimp only at hSw); have q0 := hSw.1.cell 1 (by simp); have q2 := hSw.2; simp only [List.getElem_cons_zero, List.getElem_cons_succ] at q0
            go_simp
            all_goals (try with_reducible rfl)
          (try simp only [Act.put, List.setIfInBounds_toArray, List.set_cons_zero, List.set_cons_succ])
          refine wpAnyH_take (i := 1) (oi := ⟨some 45, _, _, _, _, _⟩) (v := ?_) rfl (by kernel_rfl) (by kernel_rfl) (by kernel_rfl) (fun _ _ _ h => h) (Or.inl ⟨by rfl, ?_⟩) (by assumption) ?_
          rotate_left
          · intro w hSw
            (try dsimp only at hSw); have q0 := hSw.1.cell 1 (by simp); have q2 := hSw.2; simp only [List.getElem_cons_zero, List.getElem_cons_succ] at q0
            go_simp
            all_goals (try with_reducible rfl)
          (try simp only [Act.put, List.setIfInBounds_toArray, List.set_cons_zero, List.set_cons_succ])
          refine wpAnyH_take (i := 2) (oi := ⟨some 46, _, _, _, _, _⟩) (v := ?_) rfl (by kernel_rfl) (by kernel_rfl) (by kernel_rfl) (fun _ _ _ h => h) (Or.inl ⟨by rfl, ?_⟩) (by assumption) ?_
          rotate_left
          · intro w hSw
            (try dsimp only at hSw); have q0 := hSw.1.cell 1 (by simp); have q2 := hSw.2; simp only [List.getElem_cons_zero, List.getElem_cons_succ] at q0
            go_simp
            all_goals (try with_reducible rfl)
          (try simp only [Act.put, List.setIfInBounds_toArray, List.set_cons_zero, List.set_cons_succ])
          refine wpAnyH_take (i := 3) (oi := ⟨some 47, _, _, _, _, _⟩) (v := ?_) rfl (by kernel_rfl) (by kernel_rfl) (by kernel_rfl) (fun _ _ _ h => h) (Or.inl ⟨by rfl, ?_⟩) (by assumption) ?_
          rotate_left
          · intro w hSw
            (try dsimp only at hSw); have q0 := hSw.1.cell 1 (by simp); have q2 := hSw.2; simp only [List.getElem_cons_zero, List.getElem_cons_succ] at q0
            go_simp
            all_goals (try with_reducible rfl)
          (try simp only [Act.put, List.setIfInBounds_toArray, List.set_cons_zero, List.set_cons_succ])
          refine wpAnyH_take (i := 4) (oi := ⟨some 48, _, _, _, _, _⟩) (v := ?_) rfl (by kernel_rfl) (by kernel_rfl) (by kernel_rfl) (fun _ _ _ h => h) (Or.inl ⟨by rfl, ?_⟩) (by assumption) ?_
          rotate_left
          · intro w hSw
            (try dsimp only at hSw); have q0 := hSw.1.cell 1 (by simp); have q2 := hSw.2; simp only [List.getElem_cons_zero, List.getElem_cons_succ] at q0
            go_simp
            all_goals (try with_reducible rfl)
          (try simp only [Act.put, List.setIfInBounds_toArray, List.set_cons_zero, List.set_cons_succ])
          refine wpAnyH_take (i := 5) (oi := ⟨some 49, _, _, _, _, _⟩) (v := ?_) rfl (by kernel_rfl) (by kernel_rfl) (by kernel_rfl) (fun _ _ _ h => h) (Or.inl ⟨by rfl, ?_⟩) (by assumption) ?_
          rotate_left
          · intro w hSw
            (try dsimp only at hSw); have q0 := hSw.1.cell 1 (by simp); have q2 := hSw.2; simp only [List.getElem_cons_zero, List.getElem_cons_succ] at q0
            go_simp
            all_goals (try with_reducible rfl)
          (try simp only [Act.put, List.setIfInBounds_toArray, List.set_cons_zero, List.set_cons_succ])
          refine wpAnyH_take (i := 6) (oi := ⟨some 50, _, _, _, _, _⟩) (v := ?_) rfl (by kernel_rfl) (by kernel_rfl) (by kernel_rfl) (fun _ _ _ h => h) (Or.inl ⟨by rfl, ?_⟩) (by assumption) ?_
          rotate_left
          · intro w hSw
            (try dsimp only at hSw); have q0 := hSw.1.cell 1 (by simp); have q2 := hSw.2; simp only [List.getElem_cons_zero, List.getElem_cons_succ] at q0
            go_simp
            all_goals (try with_reducible rfl)
          (try simp only [Act.put, List.setIfInBounds_toArray, List.set_cons_zero, List.set_cons_succ])
          refine wpAnyH_take (i := 7) (oi := ⟨some 51, _, _, _, _, _⟩) (v := ?_) rfl (by kernel_rfl) (by kernel_rfl) (by kernel_rfl) (fun _ _ _ h => h) (Or.inl ⟨by rfl, ?_⟩) (by assumption) ?_
          rotate_left
          · intro w hSw
            (try dsimp only at hSw); have q0 := hSw.1.cell 1 (by simp); have q2 := hSw.2; simp only [List.getElem_cons_zero, List.getElem_cons_succ] at q0
            go_simp
            all_goals (try with_reducible rfl)
          (try simp only [Act.put, List.setIfInBounds_toArray, List.set_cons_zero, List.set_cons_succ])
          refine wpAnyH_take (i := 8) (oi := ⟨some 52, _, _, _, _, _⟩) (v := ?_) rfl (by kernel_rfl) (by kernel_rfl) (by kernel_rfl) (fun _ _ _ h => h) (Or.inl ⟨by rfl, ?_⟩) (by assumption) ?_
          rotate_left
          · intro w hSw
            (try dsimp only at hSw); have q0 := hSw.1.cell 1 (by simp); have q2 := hSw.2; simp only [List.getElem_cons_zero, List.getElem_cons_succ] at q0
            go_simp
            all_goals (try with_reducible rfl)
          (try simp only [Act.put, List.setIfInBounds_toArray, List.set_cons_zero, List.set_cons_succ])
          refine wpAnyH_take (i := 9) (oi := ⟨some 53, _, _, _, _, _⟩) (v := ?_) rfl (by kernel_rfl) (by kernel_rfl) (by kernel_rfl) (fun _ _ _ h => h) (Or.inl ⟨by rfl, ?_⟩) (by assumption) ?_
          rotate_left
          · intro w hSw
            (try dsimp only at hSw); have q0 := hSw.1.cell 1 (by simp); have q2 := hSw.2; simp only [List.getElem_cons_zero, List.getElem_cons_succ] at q0
            go_simp
            all_goals (try with_reducible rfl)
          (try simp only [Act.put, List.setIfInBounds_toArray, List.set_cons_zero, List.set_cons_succ])
          refine wpAnyH_take (i := 10) (oi := ⟨some 54, _, _, _, _, _⟩) (v := ?_) rfl (by kernel_rfl) (by kernel_rfl) (by kernel_rfl) (fun _ _ _ h => h) (Or.inl ⟨by rfl, ?_⟩) (by assumption) ?_
          rotate_left
          · intro w hSw
            (try dsimp only at hSw); have q0 := hSw.1.cell 1 (by simp); have q2 := hSw.2; simp only [List.getElem_cons_zero, List.getElem_cons_succ] at q0
            go_simp
            all_goals (try with_reducible rfl)
          (try simp only [Act.put, List.setIfInBounds_toArray, List.set_cons_zero, List.set_cons_succ])
          refine wpAnyH_take (i := 11) (oi := ⟨some 55, _, _, _, _, _⟩) (v := ?_) rfl (by kernel_rfl) (by kernel_rfl) (by kernel_rfl) (fun _ _ _ h => h) (Or.inl ⟨by rfl, ?_⟩) (by assumption) ?_
          rotate_left
          · intro w hSw
            (try dsimp only at hSw); have q0 := hSw.1.cell 1 (by simp); have q2 := hSw.2; simp only [List.getElem_cons_zero, List.getElem_cons_succ] at q0
            go_simp
            all_goals (try with_reducible rfl)
          (try simp only [Act.put, List.setIfInBounds_toArray, List.set_cons_zero, List.set_cons_succ])
          refine wpAnyH_take (i := 12) (oi := ⟨some 56, _, _, _, _, _⟩) (v := ?_) rfl (by kernel_rfl) (by kernel_rfl) (by kernel_rfl) (fun _ _ _ h => h) (Or.inl ⟨by rfl, ?_⟩) (by assumption) ?_
          rotate_left
          · intro w hSw
            (try dsimp only at hSw); have q0 := hSw.1.cell 1 (by simp); have q2 := hSw.2; simp only [List.getElem_cons_zero, List.getElem_cons_succ] at q0
            go_simp
            all_goals (try with_reducible rfl)
          (try simp only [Act.put, List.setIfInBounds_toArray, List.set_cons_zero, List.set_cons_succ])
          refine wpAnyH_take (i := 13) (oi := ⟨some 57, _, _, _, _, _⟩) (v := ?_) rfl (by kernel_rfl) (by kernel_rfl) (by kernel_rfl) (fun _ _ _ h => h) (Or.inl ⟨by rfl, ?_⟩) (by assumption) ?_
          rotate_left
          · intro w hSw
            (try dsimp only at hSw); have q0 := hSw.1.cell 1 (by simp); have q2 := hSw.2; simp only [List.getElem_cons_zero, List.getElem_cons_succ] at q0
            go_simp
            all_goals (try with_reducible rfl)
          (try simp only [Act.put, List.setIfInBounds_toArray, List.set_cons_zero, List.set_cons_succ])
          refine wpAnyH_take (i := 14) (oi := ⟨some 58, _, _, _, _, _⟩) (v := ?_) rfl (by kernel_rfl) (by kernel_rfl) (by kernel_rfl) (fun _ _ _ h => h) (Or.inl ⟨by rfl, ?_⟩) (by assumption) ?_
          rotate_left
          · intro w hSw
            (try dsimp only at hSw); have q0 := hSw.1.cell 1 (by simp); have q2 := hSw.2; simp only [List.getElem_cons_zero, List.getElem_cons_succ] at q0
            go_simp
            all_goals (try with_reducible rfl)
          (try simp only [Act.put, List.setIfInBounds_toArray, List.set_cons_zero, List.set_cons_succ])
          refine wpAnyH_ready (rs := [15]) (by kernel_rfl) (by simp) ?_
          refine AllReadyH.cons (o := ⟨some 59, _, _, _, _, _⟩) rfl (fun K hK => ?_) AllReadyH.nil
          go_simp
          refine (geom_config_any gb cf.b cf.s cf.l _ (HQ6.out.fact (fun W => GeoAt W gb cf.b cf.s cf.l) HG.out)).mono ?_
          rintro en v8 ⟨rfl, hO⟩
          have HQ7 := Lib.hid (HQ6.out.keep0 hO)
          clear hO HQ6
          have HQ6 := Lib.hid HQ7.out
          clear HQ7
          refine hK.out _ _ ⟨HQ6.out.boxi 3 rfl, by simpa [SB] using (HQ6.out.boxi 0 (p := S) rfl).cell 1 (by simp [SB])⟩ (fun hSw8 => ?_)
          clear hK K
          clear hSw7
          (try simp only [Act.put, List.setIfInBounds_toArray, List.set_cons_zero, List.set_cons_succ])
          refine wpAnyH_take (i := 16) (oi := ⟨some 60, _, _, _, _, _⟩) (v := ?_) rfl (by kernel_rfl) (by kernel_rfl) (by kernel_rfl) (fun _ _ _ h => h) (Or.inl ⟨by rfl, ?_⟩) (by assumption) ?_
          rotate_left
          · intro w hSw
            (try dsimp only at hSw); have q0 := hSw.1.cell 1 (by simp); have q2 := hSw.2; simp only [List.getElem_cons_zero, List.getElem_cons_succ] at q0
            go_simp
            all_goals (try with_reducible rfl)
          (try simp only [Act.put, List.setIfInBounds_toArray, List.set_cons_zero, List.set_cons_succ])
          refine wpAnyH_take (i := 17) (oi := ⟨some 61, _, _, _, _, _⟩) (v := ?_) rfl (by kernel_rfl) (by kernel_rfl) (by kernel_rfl) (fun _ _ _ h => h) (Or.inl ⟨by rfl, ?_⟩) (by assumption) ?_
          rotate_left
          · intro w hSw
            (try dsimp only at hSw); have q0 := hSw.1.cell 1 (by simp); have q2 := hSw.2; simp only [List.getElem_cons_zero, List.getElem_cons_succ] at q0
            go_simp
            all_goals (try with_reducible rfl)
          (try simp only [Act.put, List.setIfInBounds_toArray, List.set_cons_zero, List.set_cons_succ])
          refine wpAnyH_take (i := 18) (oi := ⟨some 62, _, _, _, _, _⟩) (v := ?_) rfl (by kernel_rfl) (by kernel_rfl) (by kernel_rfl) (fun _ _ _ h => h) (Or.inl ⟨by rfl, ?_⟩) (by assumption) ?_
          rotate_left
          · intro w hSw
            (try dsimp only at hSw); have q0 := hSw.1.cell 1 (by simp); have q2 := hSw.2; simp only [List.getElem_cons_zero, List.getElem_cons_succ] at q0
            go_simp
            all_goals (try with_reducible rfl)
          (try simp only [Act.put, List.setIfInBounds_toArray, List.set_cons_zero, List.set_cons_succ])
          refine wpAnyH_done (by kernel_rfl) ?_ _
          clear hSw8
          have hlz : N = 0 ∨ cf.l < q.o + (N : Int) → False := fun h => h.elim (fun h => hN0 h) (fun h => hfar2 h)
          have HLZ := Lib.hid hlz
          clear hlz
          have hg1 : gerr d a 1 = 0 := by rw [gerr_one]; exact HZ.out
          have hga : gat d a 1 = d.read a := gat_one d a
          have HWS : Hid (Wk w0 wb v8 ((S, SB pd.D gb p own e 0) :: (fn, [.int .i64 0, .int .i64 0, .int .i64 0, .int .i64 0, .int .i64 0]) :: (fr, [.int .i64 0, .int .i64 0, .int .i64 0, .slice none 0 0, .slice none 0 0]) :: (fq, [.int .i64 q.s, .int .i64 q.o, .int .i64 q.l, .int .i64 q.p, .int .i64 q.m]) :: L) (⟨5, 1, .slice A n cc, n, bvs (gat d a 1)⟩ :: G) F) := Lib.hid (by rw [hga]; exact HQ6.out)
          have HG1 := Lib.hid hg1
          clear hg1 hga HQ6
          obtain ⟨i0, hi0, hy0, hy1, hy2⟩ := info_parts Tryz.infoU8
          have hNge : 1 ≤ N := by omega
          clear hN0 HNL hn64
          go_wp2_with fail
          go_loopg [8, 10] (N - 1) (fun rr t8 i wr => ∃ (j : Nat) (A : Option Addr) (n cc : Nat), j + rr = N ∧ 1 ≤ j ∧ i = .int .i64 j ∧ t8 = .slice A n cc ∧ gerr d a j = 0 ∧ Wk w0 wb wr ((S, SB pd.D gb p own e 0) :: (fn, [.int .i64 0, .int .i64 0, .int .i64 0, .int .i64 0, .int .i64 0]) :: (fr, [.int .i64 0, .int .i64 0, .int .i64 0, .slice none 0 0, .slice none 0 0]) :: (fq, [.int .i64 q.s, .int .i64 q.o, .int .i64 q.l, .int .i64 q.p, .int .i64 q.m]) :: L) (⟨5, 1, .slice A n cc, n, bvs (gat d a j)⟩ :: G) F)
          case atStart => exact ⟨1, A, n, cc, by omega, by omega, rfl, rfl, HG1.out, HWS.out⟩
          obtain ⟨j, A, n, cc, hj, hj1, rfl, rfl, hge, hw⟩ := hrel
          have HGE := Lib.hid hge
          have HW6 := Lib.hid hw
          have hnl := (hw.gi 0 rfl).1
          rw [bvs_length, gat_len HDK.out.ok j hge] at hnl
          have hn4 : n = 64 * j := by simpa using hnl.symm
          have hn448 : n ≤ 448 := by omega
          have HN4 := Lib.hid hn4
          clear HWS HG1 hge hw hnl hn4
          by_cases hlt : j < N
          · have hlt2 : (j : Int) < (N : Int) := by omega
            go_wp2_with fail
            refine (scan_read_own w0 _ S gb pd d p own e 0 _ _ F (a + (j : Int)) HW6.out (HDK.out.mono (fun x hx => by simp [hx]))).mono ?_
            rintro en w7 ⟨AX, nx, ccx, rfl, hrd⟩
            have HW7 := Lib.hid hrd
            clear hrd HW6
            obtain ⟨z2, hz2⟩ : ∃ z, d.err (a + (j : Int)) = z := ⟨_, rfl⟩
            rw [hz2] at HW7 ⊢
            have HZ2 := Lib.hid hz2
            clear hz2
            have hgs := gerr_succ d a j
            rw [if_pos HGE.out, HZ2.out] at hgs
            have HGS := Lib.hid hgs
            clear hgs
            by_cases hz20 : z2 = 0
            · subst hz20
              have hrx := (Row1.of_owns (HW7.out.gi 0 rfl)).1
              have hnx := hrx.len
              rw [bvs_length] at hnx
              have hnx64 : nx ≤ 64 := by rw [← hnx, Dk.read_len HDK.out.ok]; split <;> omega
              have HRX := Lib.hid hrx
              have HBS := Lib.hid HW7.out.only.size
              clear hrx hnx
              go_wp2_with (first
                | (at_builtin; refine wpList_append_row1 rfl (.tmp 82) (.tmp 83) 47 rfl w0.heap.size 5 i0 _ 1 Tryz.underlying47 hi0 hy0 hy1 hy2 rfl (.slice A n cc) n (bvs (gat d a j)) rfl (HW7.out.gi 1 rfl) AX nx ccx (bvs (d.read (a + (j : Int)))) rfl HRX.out (bvs_one _) (by unfold maxLen; omega) (by omega) HBS.out ?_; intro v8 w8 hown hgrow hat; have hdd := HW7.out.gapp 1 rfl hown hgrow hat; obtain ⟨A8, c8, rfl⟩ := hdd.gform 1 rfl; simp only [List.set_cons_zero, List.set_cons_succ] at hdd; have HW8 := Lib.hid hdd.gdrop; clear hdd hown hgrow hat HRX HBS HW7)
                | fail)
              have hba : bvs (gat d a j) ++ bvs (d.read (a + (j : Int))) = bvs (gat d a (j + 1)) := by rw [gat_succ]; simp [bvs]
              rw [hba] at HW8
              clear hba
              go_roundg (gk - 1)
              case measure => omega
              case rel => exact ⟨j + 1, A8, n + nx, c8, by omega, by omega, by go_num, rfl, HGS.out, HW8.out⟩
            · have hzb : decide (z2 = 0) = false := by simpa using hz20
              go_wp2_with fail
              have HY := Lib.hid HW7.out.drew
              clear HW7
              refine wp_region_held_drew (S := (fun w' => Kn.Own w' fr [.int .i64 0, .int .i64 0, .int .i64 0, .slice none 0 0, .slice none 0 0] ∧ Kn.Own w' fn [.int .i64 0, .int .i64 0, .int .i64 0, .int .i64 0, .int .i64 0])) (by kernel_rfl) ⟨HY.out.boxi 2 rfl, HY.out.boxi 1 rfl⟩ (fun hSw0 => ?_)
              generalize w7.drew = wz at *
              refine wpAnyH_take (i := 0) (oi := ⟨some 80, _, _, _, _, _⟩) (v := (.agg #[.int .i64 0, .int .i64 0, .int .i64 0, .slice none 0 0, .slice none 0 0])) rfl (by kernel_rfl) (by kernel_rfl) (by kernel_rfl) (fun _ _ _ h => h) (Or.inl ⟨by rfl, ?_⟩) (by assumption) ?_
              · intro w hSw
                have q0 := hSw.1
                have q00 := q0.cell 0 (by simp)
                have q01 := q0.cell 1 (by simp)
                have q02 := q0.cell 2 (by simp)
                have q03 := q0.cell 3 (by simp)
                have q04 := q0.cell 4 (by simp)
                simp only [List.getElem_cons_zero, List.getElem_cons_succ] at q00 q01 q02 q03 q04
                clear q0
                go_simp
              (try simp only [Act.put, List.setIfInBounds_toArray, List.set_cons_zero, List.set_cons_succ])
              refine wpAnyH_take (i := 1) (oi := ⟨some 81, _, _, _, _, _⟩) (v := (.agg #[.int .i64 0, .int .i64 0, .int .i64 0, .int .i64 0, .int .i64 0])) rfl (by kernel_rfl) (by kernel_rfl) (by kernel_rfl) (fun _ _ _ h => h) (Or.inl ⟨by rfl, ?_⟩) (by assumption) ?_
              · intro w hSw
                have q0 := hSw.2
                have q00 := q0.cell 0 (by simp)
                have q01 := q0.cell 1 (by simp)
                have q02 := q0.cell 2 (by simp)
                have q03 := q0.cell 3 (by simp)
                have q04 := q0.cell 4 (by simp)
                simp only [List.getElem_cons_zero, List.getElem_cons_succ] at q00 q01 q02 q03 q04
                clear q0
                go_simp
              (try simp only [Act.put, List.setIfInBounds_toArray, List.set_cons_zero, List.set_cons_succ])
              refine wpAnyH_ready (rs := [2]) (by kernel_rfl) (by simp) ?_
              refine AllReadyH.cons (o := ⟨none, _, _, _, _, _⟩) rfl (fun K hK => ?_) AllReadyH.nil
              refine step_store_own rfl 56 (.tmp 4) (.tmp 80) rfl fr [.int .i64 0, .int .i64 0, .int .i64 0, .slice none 0 0, .slice none 0 0] [.int .i64 0, .int .i64 0, .int .i64 0, .slice none 0 0, .slice none 0 0] (by kernel_rfl) rfl rfl (HY.out.boxi 2 rfl) rfl (by intro u hu; simp at hu; rcases hu with rfl | rfl <;> rfl) ?_
              intro wa ho hO
              have HY1 := Lib.hid (HY.out.call1 2 rfl ho hO)
              clear ho hO HY
              refine hK.out _ _ ⟨HY1.out.boxi 2 rfl, HY1.out.boxi 1 rfl⟩ (fun hSn => ?_)
              clear hK K hSw0
              have hSw0 := hSn
              clear hSn
              (try simp only [Act.put, List.setIfInBounds_toArray, List.set_cons_zero, List.set_cons_succ])
              refine wpAnyH_ready (rs := [3]) (by kernel_rfl) (by simp) ?_
              refine AllReadyH.cons (o := ⟨none, _, _, _, _, _⟩) rfl (fun K hK => ?_) AllReadyH.nil
              refine step_store_own rfl 32 (.tmp 5) (.tmp 81) rfl fn [.int .i64 0, .int .i64 0, .int .i64 0, .int .i64 0, .int .i64 0] [.int .i64 0, .int .i64 0, .int .i64 0, .int .i64 0, .int .i64 0] (by kernel_rfl) rfl rfl (HY1.out.boxi 1 rfl) rfl (by intro u hu; simp at hu; subst hu; rfl) ?_
              intro wy ho hO
              have HY2 := Lib.hid (HY1.out.call1 1 rfl ho hO)
              clear ho hO HY1
              refine hK.out _ _ ⟨HY2.out.boxi 2 rfl, HY2.out.boxi 1 rfl⟩ (fun hSn => ?_)
              clear hK K hSw0
              have hSw0 := hSn
              clear hSn
              (try simp only [Act.put, List.setIfInBounds_toArray, List.set_cons_zero, List.set_cons_succ])
              refine wpAnyH_take (i := 4) (oi := ⟨some 6, _, _, _, _, _⟩) (v := ?_) rfl (by kernel_rfl) (by kernel_rfl) (by kernel_rfl) (fun _ _ _ h => h) (Or.inl ⟨by rfl, ?_⟩) (by assumption) ?_
              rotate_left
              · intro w hSw
                (try dsimp only at hSw)
                go_simp
                all_goals (try with_reducible rfl)
              (try simp only [Act.put, List.setIfInBounds_toArray, List.set_cons_zero, List.set_cons_succ])
              refine wpAnyH_done (by kernel_rfl) ?_ _
              clear hSw0
              have HFOL := Lib.hid ((follow_gerr (d := d) (c := cf) (p := q) ⟨ho0, by omega⟩ HA.out HZ.out HN.out (fun h => HLZ.out h) (by rw [gerr_stop (m := j + 1) (by rw [HGS.out]; exact hz20) (by omega), HGS.out]; exact hz20)).trans (by rw [gerr_stop (m := j + 1) (by rw [HGS.out]; exact hz20) (by omega), HGS.out]))
              have br := HY2.out.boxi 2 rfl
              have bn := HY2.out.boxi 1 rfl
              have r0 := br.cell 0 (by simp)
              have r1 := br.cell 1 (by simp)
              have r2 := br.cell 2 (by simp)
              have r3 := br.cell 3 (by simp)
              have r4 := br.cell 4 (by simp)
              simp only [List.getElem_cons_zero, List.getElem_cons_succ] at r0 r1 r2 r3 r4
              have n0 := bn.cell 0 (by simp)
              have n1 := bn.cell 1 (by simp)
              have n2 := bn.cell 2 (by simp)
              have n3 := bn.cell 3 (by simp)
              have n4 := bn.cell 4 (by simp)
              simp only [List.getElem_cons_zero, List.getElem_cons_succ] at n0 n1 n2 n3 n4
              clear br bn
              go_wp2
              (try simp only [Exit.inBlock, Exit.then])
              refine bodyPost_ret (v := .tuple #[.agg #[.int .i64 0, .int .i64 0, .int .i64 0, .slice none 0 0, .slice none 0 0], .agg #[.int .i64 0, .int .i64 0, .int .i64 0, .int .i64 0, .int .i64 0], .bool false]) ?_ rfl ?_
              · simp only [results, HRES.out]
                go_simp
              · have HYs : Wk w0 wb wy ((S, SB pd.D gb p own e z2) :: (fn, [.int .i64 0, .int .i64 0, .int .i64 0, .int .i64 0, .int .i64 0]) :: (fr, [.int .i64 0, .int .i64 0, .int .i64 0, .slice none 0 0, .slice none 0 0]) :: (fq, [.int .i64 q.s, .int .i64 q.o, .int .i64 q.l, .int .i64 q.p, .int .i64 q.m]) :: L) (_ :: _ :: G) F := HY2.out
                exact OneSays.no HFOL.out ((HYs.sub (L' := (S, SB pd.D gb p own e z2) :: L) (F' := F) (.cons_cons _ (.cons _ (.cons _ (.cons _ (List.Sublist.refl _))))) (fun f hf => hf)).subG (G' := G) (by simp))
          · obtain rfl : j = N := by omega
            have hbo := (Row1.of_owns (HW6.out.gi 0 rfl)).1
            have HBO := Lib.hid hbo
            clear hbo
            go_wp2_with fail
            refine (rec_dec_any A n cc (gat d a j) _ HBO.out (by omega)).mono ?_
            rintro en w8 ⟨s, t, rfl, hfc, hO⟩
            obtain ⟨s1, s2, s3⟩ := s
            obtain ⟨t1, t2, t3⟩ := t
            have hwA := HW6.out.addFc hO hfc
            have HWA := Lib.hid hwA
            have bfr := hwA.boxi 2 rfl
            have o0 := bfr.cell 0 (by simp)
            have o1 := bfr.cell 1 (by simp)
            have o2 := bfr.cell 2 (by simp)
            have o3 := bfr.cell 3 (by simp)
            have o4 := bfr.cell 4 (by simp)
            simp only [List.getElem_cons_zero, List.getElem_cons_succ] at o0 o1 o2 o3 o4
            have g0 := bfr.frozen 0
            have g1 := bfr.frozen 1
            have g2 := bfr.frozen 2
            have g3 := bfr.frozen 3
            have g4 := bfr.frozen 4
            have bfq := hwA.boxi 3 rfl
            have p0 := bfq.cell 0 (by simp)
            have p1 := bfq.cell 1 (by simp)
            have p2 := bfq.cell 2 (by simp)
            have p3 := bfq.cell 3 (by simp)
            have p4 := bfq.cell 4 (by simp)
            simp only [List.getElem_cons_zero, List.getElem_cons_succ] at p0 p1 p2 p3 p4
            cases hdec : decRc (gat d a j) with
            | none =>
              have HDEC := Lib.hid hdec
              rw [hdec] at HWA
              have HB9 := Lib.hid (own_set5 bfr (.int .i64 0) (.int .i64 0) (.int .i64 0) (.slice s1 s2 s3) (.slice t1 t2 t3))
              have HX := Lib.hid (HWA.out.call1 2 rfl (own_set5 bfr (.int .i64 0) (.int .i64 0) (.int .i64 0) (.slice s1 s2 s3) (.slice t1 t2 t3)) (only_set5 _ fr _ _ _ _ _))
              simp only [List.set_cons_zero, List.set_cons_succ] at HX
              clear hwA bfr bfq HWA HBO HW6 hfc hO
              clear hdec
              simp only [Option.map_none, Option.getD_none, Option.isSome_none, rcZ, Rc.cells, slv]
              go_wp2_with fail
              have HY := Lib.hid HX.out.drew
              clear HX
              refine wp_region_held_drew (S := (fun w' => Kn.Own w' fn [.int .i64 0, .int .i64 0, .int .i64 0, .int .i64 0, .int .i64 0])) (by kernel_rfl) (HY.out.boxi 1 rfl) (fun hSw0 => ?_)
              generalize (((((w8.setCell ⟨fr, 0, none⟩ (.int .i64 0)).setCell ⟨fr, 1, none⟩ (.int .i64 0)).setCell ⟨fr, 2, none⟩ (.int .i64 0)).setCell ⟨fr, 3, none⟩ (.slice s1 s2 s3)).setCell ⟨fr, 4, none⟩ (.slice t1 t2 t3)).drew = wz at *
              refine wpAnyH_take (i := 0) (oi := ⟨some 114, _, _, _, _, _⟩) (v := ?_) rfl (by kernel_rfl) (by kernel_rfl) (by kernel_rfl) (fun _ _ _ h => h) (Or.inl ⟨by rfl, ?_⟩) (by assumption) ?_
              rotate_left
              · intro w hSw
                (try dsimp only at hSw)
                go_simp
                all_goals (try with_reducible rfl)
              (try simp only [Act.put, List.setIfInBounds_toArray, List.set_cons_zero, List.set_cons_succ])
              refine wpAnyH_take (i := 1) (oi := ⟨some 115, _, _, _, _, _⟩) (v := (.agg #[.int .i64 0, .int .i64 0, .int .i64 0, .int .i64 0, .int .i64 0])) rfl (by kernel_rfl) (by kernel_rfl) (by kernel_rfl) (fun _ _ _ h => h) (Or.inl ⟨by rfl, ?_⟩) (by assumption) ?_
              · intro w hSw
                have q0 := hSw
                have q00 := q0.cell 0 (by simp)
                have q01 := q0.cell 1 (by simp)
                have q02 := q0.cell 2 (by simp)
                have q03 := q0.cell 3 (by simp)
                have q04 := q0.cell 4 (by simp)
                simp only [List.getElem_cons_zero, List.getElem_cons_succ] at q00 q01 q02 q03 q04
                clear q0
                go_simp
              (try simp only [Act.put, List.setIfInBounds_toArray, List.set_cons_zero, List.set_cons_succ])
              refine wpAnyH_ready (rs := [2]) (by kernel_rfl) (by simp) ?_
              refine AllReadyH.cons (o := ⟨none, _, _, _, _, _⟩) rfl (fun K hK => ?_) AllReadyH.nil
              refine step_store_own rfl 56 (.tmp 4) (.tmp 114) rfl fr [.int .i64 0, .int .i64 0, .int .i64 0, .slice s1 s2 s3, .slice t1 t2 t3] [.int .i64 0, .int .i64 0, .int .i64 0, .slice none 0 0, .slice none 0 0] (by kernel_rfl) rfl rfl (HY.out.boxi 2 rfl) rfl (by intro u hu; simp at hu; rcases hu with rfl | rfl <;> rfl) ?_
              intro wa ho hO
              have HY1 := Lib.hid (HY.out.call1 2 rfl ho hO)
              clear ho hO HY
              refine hK.out _ _ (HY1.out.boxi 1 rfl) (fun hSn => ?_)
              clear hK K hSw0
              have hSw0 := hSn
              clear hSn
              (try simp only [Act.put, List.setIfInBounds_toArray, List.set_cons_zero, List.set_cons_succ])
              refine wpAnyH_ready (rs := [3]) (by kernel_rfl) (by simp) ?_
              refine AllReadyH.cons (o := ⟨none, _, _, _, _, _⟩) rfl (fun K hK => ?_) AllReadyH.nil
              refine step_store_own rfl 32 (.tmp 5) (.tmp 115) rfl fn [.int .i64 0, .int .i64 0, .int .i64 0, .int .i64 0, .int .i64 0] [.int .i64 0, .int .i64 0, .int .i64 0, .int .i64 0, .int .i64 0] (by kernel_rfl) rfl rfl (HY1.out.boxi 1 rfl) rfl (by intro u hu; simp at hu; subst hu; rfl) ?_
              intro wy ho hO
              have HY2 := Lib.hid (HY1.out.call1 1 rfl ho hO)
              clear ho hO HY1
              refine hK.out _ _ (HY2.out.boxi 1 rfl) (fun hSn => ?_)
              clear hK K hSw0
              have hSw0 := hSn
              clear hSn
              (try simp only [Act.put, List.setIfInBounds_toArray, List.set_cons_zero, List.set_cons_succ])
              refine wpAnyH_take (i := 4) (oi := ⟨some 6, _, _, _, _, _⟩) (v := ?_) rfl (by kernel_rfl) (by kernel_rfl) (by kernel_rfl) (fun _ _ _ h => h) (Or.inl ⟨by rfl, ?_⟩) (by assumption) ?_
              rotate_left
              · intro w hSw
                (try dsimp only at hSw)
                go_simp
                all_goals (try with_reducible rfl)
              (try simp only [Act.put, List.setIfInBounds_toArray, List.set_cons_zero, List.set_cons_succ])
              refine wpAnyH_done (by kernel_rfl) ?_ _
              clear hSw0
              have HFOL := Lib.hid (follow_dec (d := d) (c := cf) (p := q) ⟨ho0, by omega⟩ HA.out HZ.out HN.out (fun h => HLZ.out h) HGE.out HDEC.out)
              have br := HY2.out.boxi 2 rfl
              have bn := HY2.out.boxi 1 rfl
              have r0 := br.cell 0 (by simp)
              have r1 := br.cell 1 (by simp)
              have r2 := br.cell 2 (by simp)
              have r3 := br.cell 3 (by simp)
              have r4 := br.cell 4 (by simp)
              simp only [List.getElem_cons_zero, List.getElem_cons_succ] at r0 r1 r2 r3 r4
              have n0 := bn.cell 0 (by simp)
              have n1 := bn.cell 1 (by simp)
              have n2 := bn.cell 2 (by simp)
              have n3 := bn.cell 3 (by simp)
              have n4 := bn.cell 4 (by simp)
              simp only [List.getElem_cons_zero, List.getElem_cons_succ] at n0 n1 n2 n3 n4
              clear br bn
              go_wp2
              (try simp only [Exit.inBlock, Exit.then])
              refine bodyPost_ret (v := .tuple #[.agg #[.int .i64 0, .int .i64 0, .int .i64 0, .slice none 0 0, .slice none 0 0], .agg #[.int .i64 0, .int .i64 0, .int .i64 0, .int .i64 0, .int .i64 0], .bool false]) ?_ rfl ?_
              · simp only [results, HRES.out]
                go_simp
              · have HYs : Wk w0 wb wy ((S, SB pd.D gb p own e 0) :: (fn, [.int .i64 0, .int .i64 0, .int .i64 0, .int .i64 0, .int .i64 0]) :: (fr, [.int .i64 0, .int .i64 0, .int .i64 0, .slice none 0 0, .slice none 0 0]) :: (fq, [.int .i64 q.s, .int .i64 q.o, .int .i64 q.l, .int .i64 q.p, .int .i64 q.m]) :: L) (_ :: G) (_ :: F) := HY2.out
                exact OneSays.no HFOL.out ((HYs.sub (L' := (S, SB pd.D gb p own e 0) :: L) (F' := F) (.cons_cons _ (.cons _ (.cons _ (.cons _ (List.Sublist.refl _))))) (fun f hf => List.mem_cons_of_mem _ hf)).subG (G' := G) (by simp))
            | some x =>
              obtain ⟨⟨rm, rn, rp, ri, rb⟩, sm⟩ := x
              have HDEC := Lib.hid hdec
              obtain ⟨he1, _, _⟩ := encRc_of_dec hdec
              obtain ⟨hq1, hq2, hq3, hq4, hq5, hq6, hq7, hq8⟩ := enc_some he1
              simp only at hq6 hq7
              obtain ⟨hrn0, hrn1⟩ := hq7
              rw [hdec] at HWA
              have HB9 := Lib.hid (own_set5 bfr (.int .i64 rm) (.int .i64 rn) (.int .i64 rp) (.slice s1 s2 s3) (.slice t1 t2 t3))
              have HX := Lib.hid (HWA.out.call1 2 rfl (own_set5 bfr (.int .i64 rm) (.int .i64 rn) (.int .i64 rp) (.slice s1 s2 s3) (.slice t1 t2 t3)) (only_set5 _ fr _ _ _ _ _))
              simp only [List.set_cons_zero, List.set_cons_succ] at HX
              clear hwA bfr bfq HWA HBO HW6 hfc hO
              clear hdec he1 hq1 hq2 hq3 hq4 hq5 hq6 hq8
              have hFR := follow_rec (d := d) (c := cf) (p := q) ⟨ho0, by omega⟩ HA.out HZ.out HN.out (fun h => HLZ.out h) HGE.out HDEC.out
              have HFR := Lib.hid hFR
              clear hFR
              simp only [Option.map_some, Option.getD_some, Option.isSome_some, Rc.cells, slv]
              go_upto_region 16 with (fail)
              generalize hwc : (((((w8.setCell ⟨fr, 0, none⟩ (.int .i64 rm)).setCell ⟨fr, 1, none⟩ (.int .i64 rn)).setCell ⟨fr, 2, none⟩ (.int .i64 rp)).setCell ⟨fr, 3, none⟩ (.slice s1 s2 s3)).setCell ⟨fr, 4, none⟩ (.slice t1 t2 t3)) = w9 at *
              clear hwc o0 o1 o2 o3 o4 g0 g1 g2 g3 g4 p0 p1 p2 p3 p4
              have k9 := HX.out.boxi 2 rfl
              have k0 := k9.cell 0 (by simp)
              have k1 := k9.cell 1 (by simp)
              have k2 := k9.cell 2 (by simp)
              have k3 := k9.cell 3 (by simp)
              have k4 := k9.cell 4 (by simp)
              simp only [List.getElem_cons_zero, List.getElem_cons_succ] at k0 k1 k2 k3 k4
              clear k9 HB9
              have p9 := HX.out.boxi 3 rfl
              have p0 := p9.cell 0 (by simp)
              have p1 := p9.cell 1 (by simp)
              have p2 := p9.cell 2 (by simp)
              have p3 := p9.cell 3 (by simp)
              have p4 := p9.cell 4 (by simp)
              simp only [List.getElem_cons_zero, List.getElem_cons_succ] at p0 p1 p2 p3 p4
              clear p9
              by_cases c1 : rn = q.l
              · by_cases c2 : rp = q.p
                · by_cases c3 : q.m ≤ rm
                  · have HFOL := Lib.hid (HFR.out.trans (if_pos ⟨c1, c2, c3⟩))
                    have hb1 : (rn != q.l) = false := by simp [c1]
                    have hb2 : (rp != q.p) = false := by simp [c2]
                    have hb3 : ¬ rm < q.m := by omega
                    have hwn := IntWalk.i64_in (rn + 1) (by omega)
                    have HC1 := Lib.hid c1
                    clear c1 c2
                    go_wp2_with fail
                    have HY := Lib.hid HX.out.drew
                    clear HX
                    refine wp_region_held_drew (S := (fun w' => Kn.Own w' fr [.int .i64 rm, .int .i64 rn, .int .i64 rp, .slice s1 s2 s3, .slice t1 t2 t3] ∧ Kn.Own w' fq [.int .i64 q.s, .int .i64 q.o, .int .i64 q.l, .int .i64 q.p, .int .i64 q.m])) (by kernel_rfl) ⟨HY.out.boxi 2 rfl, HY.out.boxi 3 rfl⟩ (fun hSw0 => ?_)
                    generalize w9.drew = wz at *
                    refine wpAnyH_take (i := 0) (oi := ⟨some 116, _, _, _, _, _⟩) (v := (.agg #[.int .i64 rm, .int .i64 rn, .int .i64 rp, .slice s1 s2 s3, .slice t1 t2 t3])) rfl (by kernel_rfl) (by kernel_rfl) (by kernel_rfl) (fun _ _ _ h => h) (Or.inl ⟨by rfl, ?_⟩) (by assumption) ?_
                    · intro w hSw
                      have q0 := hSw.1
                      have q00 := q0.cell 0 (by simp)
                      have q01 := q0.cell 1 (by simp)
                      have q02 := q0.cell 2 (by simp)
                      have q03 := q0.cell 3 (by simp)
                      have q04 := q0.cell 4 (by simp)
                      simp only [List.getElem_cons_zero, List.getElem_cons_succ] at q00 q01 q02 q03 q04
                      clear q0
                      go_simp
                    (try simp only [Act.put, List.setIfInBounds_toArray, List.set_cons_zero, List.set_cons_succ])
                    refine wpAnyH_take (i := 1) (oi := ⟨some 117, _, _, _, _, _⟩) (v := ?_) rfl (by kernel_rfl) (by kernel_rfl) (by kernel_rfl) (fun _ _ _ h => h) (Or.inl ⟨by rfl, ?_⟩) (by assumption) ?_
                    rotate_left
                    · intro w hSw
                      (try dsimp only at hSw)
                      go_simp
                      all_goals (try with_reducible rfl)
                    (try simp only [Act.put, List.setIfInBounds_toArray, List.set_cons_zero, List.set_cons_succ])
                    refine wpAnyH_take (i := 2) (oi := ⟨some 118, _, _, _, _, _⟩) (v := (.int .i64 q.s)) rfl (by kernel_rfl) (by kernel_rfl) (by kernel_rfl) (fun _ _ _ h => h) (Or.inl ⟨by rfl, ?_⟩) (by assumption) ?_
                    · intro w hSw
                      have q0 := hSw.2.cell 0 (by simp)
                      simp only [List.getElem_cons_zero, List.getElem_cons_succ] at q0
                      go_simp
                    (try simp only [Act.put, List.setIfInBounds_toArray, List.set_cons_zero, List.set_cons_succ])
                    refine wpAnyH_take (i := 3) (oi := ⟨some 119, _, _, _, _, _⟩) (v := ?_) rfl (by kernel_rfl) (by kernel_rfl) (by kernel_rfl) (fun _ _ _ h => h) (Or.inl ⟨by rfl, ?_⟩) (by assumption) ?_
                    rotate_left
                    · intro w hSw
                      (try dsimp only at hSw)
                      go_simp
                      all_goals (try with_reducible rfl)
                    (try simp only [Act.put, List.setIfInBounds_toArray, List.set_cons_zero, List.set_cons_succ])
                    refine wpAnyH_take (i := 4) (oi := ⟨some 120, _, _, _, _, _⟩) (v := (.int .i64 q.o)) rfl (by kernel_rfl) (by kernel_rfl) (by kernel_rfl) (fun _ _ _ h => h) (Or.inl ⟨by rfl, ?_⟩) (by assumption) ?_
                    · intro w hSw
                      have q0 := hSw.2.cell 1 (by simp)
                      simp only [List.getElem_cons_zero, List.getElem_cons_succ] at q0
                      go_simp
                    (try simp only [Act.put, List.setIfInBounds_toArray, List.set_cons_zero, List.set_cons_succ])
                    refine wpAnyH_take (i := 5) (oi := ⟨some 121, _, _, _, _, _⟩) (v := ?_) rfl (by kernel_rfl) (by kernel_rfl) (by kernel_rfl) (fun _ _ _ h => h) (Or.inl ⟨by rfl, ?_⟩) (by assumption) ?_
                    rotate_left
                    · intro w hSw
                      (try dsimp only at hSw)
                      go_simp
                      all_goals (try with_reducible rfl)
                    (try simp only [Act.put, List.setIfInBounds_toArray, List.set_cons_zero, List.set_cons_succ])
                    refine wpAnyH_take (i := 6) (oi := ⟨some 122, _, _, _, _, _⟩) (v := ?_) rfl (by kernel_rfl) (by kernel_rfl) (by kernel_rfl) (fun _ _ _ h => h) (Or.inl ⟨by rfl, ?_⟩) (by assumption) ?_
                    rotate_left
                    · intro w hSw
                      (try dsimp only at hSw)
                      go_simp
                      all_goals (try with_reducible rfl)
                    (try simp only [Act.put, List.setIfInBounds_toArray, List.set_cons_zero, List.set_cons_succ])
                    refine wpAnyH_take (i := 7) (oi := ⟨some 123, _, _, _, _, _⟩) (v := ?_) rfl (by kernel_rfl) (by kernel_rfl) (by kernel_rfl) (fun _ _ _ h => h) (Or.inl ⟨by rfl, ?_⟩) (by assumption) ?_
                    rotate_left
                    · intro w hSw
                      (try dsimp only at hSw)
                      go_simp
                      all_goals (try with_reducible rfl)
                    (try simp only [Act.put, List.setIfInBounds_toArray, List.set_cons_zero, List.set_cons_succ])
                    refine wpAnyH_take (i := 8) (oi := ⟨some 124, _, _, _, _, _⟩) (v := (.int .i64 rn)) rfl (by kernel_rfl) (by kernel_rfl) (by kernel_rfl) (fun _ _ _ h => h) (Or.inl ⟨by rfl, ?_⟩) (by assumption) ?_
                    · intro w hSw
                      have q0 := hSw.1.cell 1 (by simp)
                      simp only [List.getElem_cons_zero, List.getElem_cons_succ] at q0
                      go_simp
                    (try simp only [Act.put, List.setIfInBounds_toArray, List.set_cons_zero, List.set_cons_succ])
                    refine wpAnyH_take (i := 9) (oi := ⟨some 125, _, _, _, _, _⟩) (v := ?_) rfl (by kernel_rfl) (by kernel_rfl) (by kernel_rfl) (fun _ _ _ h => h) (Or.inl ⟨by rfl, ?_⟩) (by assumption) ?_
                    rotate_left
                    · intro w hSw
                      (try dsimp only at hSw)
                      go_simp
                      all_goals (try with_reducible rfl)
                    (try simp only [Act.put, List.setIfInBounds_toArray, List.set_cons_zero, List.set_cons_succ])
                    refine wpAnyH_take (i := 10) (oi := ⟨some 126, _, _, _, _, _⟩) (v := ?_) rfl (by kernel_rfl) (by kernel_rfl) (by kernel_rfl) (fun _ _ _ h => h) (Or.inl ⟨by rfl, ?_⟩) (by assumption) ?_
                    rotate_left
                    · intro w hSw
                      (try dsimp only at hSw)
                      go_simp
                      all_goals (try with_reducible rfl)
                    (try simp only [Act.put, List.setIfInBounds_toArray, List.set_cons_zero, List.set_cons_succ])
                    refine wpAnyH_take (i := 11) (oi := ⟨some 127, _, _, _, _, _⟩) (v := ?_) rfl (by kernel_rfl) (by kernel_rfl) (by kernel_rfl) (fun _ _ _ h => h) (Or.inl ⟨by rfl, ?_⟩) (by assumption) ?_
                    rotate_left
                    · intro w hSw
                      (try dsimp only at hSw)
                      go_simp
                      all_goals (try with_reducible rfl)
                    (try simp only [Act.put, List.setIfInBounds_toArray, List.set_cons_zero, List.set_cons_succ])
                    refine wpAnyH_take (i := 12) (oi := ⟨some 128, _, _, _, _, _⟩) (v := (.int .i64 rm)) rfl (by kernel_rfl) (by kernel_rfl) (by kernel_rfl) (fun _ _ _ h => h) (Or.inl ⟨by rfl, ?_⟩) (by assumption) ?_
                    · intro w hSw
                      have q0 := hSw.1.cell 0 (by simp)
                      simp only [List.getElem_cons_zero, List.getElem_cons_succ] at q0
                      go_simp
                    (try simp only [Act.put, List.setIfInBounds_toArray, List.set_cons_zero, List.set_cons_succ])
                    refine wpAnyH_take (i := 13) (oi := ⟨some 129, _, _, _, _, _⟩) (v := ?_) rfl (by kernel_rfl) (by kernel_rfl) (by kernel_rfl) (fun _ _ _ h => h) (Or.inl ⟨by rfl, ?_⟩) (by assumption) ?_
                    rotate_left
                    · intro w hSw
                      (try dsimp only at hSw)
                      go_simp
                      all_goals (try with_reducible rfl)
                    (try simp only [Act.put, List.setIfInBounds_toArray, List.set_cons_zero, List.set_cons_succ])
                    refine wpAnyH_ready (rs := [14]) (by kernel_rfl) (by simp) ?_
                    refine AllReadyH.cons (o := ⟨none, _, _, _, _, _⟩) rfl (fun K hK => ?_) AllReadyH.nil
                    refine step_store_own rfl 56 (.tmp 4) (.tmp 116) rfl fr [.int .i64 rm, .int .i64 rn, .int .i64 rp, .slice s1 s2 s3, .slice t1 t2 t3] [.int .i64 rm, .int .i64 rn, .int .i64 rp, .slice s1 s2 s3, .slice t1 t2 t3] (by kernel_rfl) rfl rfl (HY.out.boxi 2 rfl) rfl (by intro u hu; simp at hu; rcases hu with rfl | rfl | rfl | rfl | rfl <;> rfl) ?_
                    intro wa ho hO
                    have HY1 := Lib.hid (HY.out.call1 2 rfl ho hO)
                    clear ho hO HY
                    refine hK.out _ _ ⟨HY1.out.boxi 2 rfl, HY1.out.boxi 3 rfl⟩ (fun hSn => ?_)
                    clear hK K hSw0
                    have hSw0 := hSn
                    clear hSn
                    (try simp only [Act.put, List.setIfInBounds_toArray, List.set_cons_zero, List.set_cons_succ])
                    refine wpAnyH_ready (rs := [15]) (by kernel_rfl) (by simp) ?_
                    refine AllReadyH.cons (o := ⟨none, _, _, _, _, _⟩) rfl (fun K hK => ?_) AllReadyH.nil
                    refine step_store_own rfl 32 (.tmp 5) (.tmp 129) rfl fn [.int .i64 0, .int .i64 0, .int .i64 0, .int .i64 0, .int .i64 0] [.int .i64 q.s, .int .i64 (q.o + (j : Int)), .int .i64 (rn + 1), .int .i64 (sm : Nat), .int .i64 rm] (by kernel_rfl) rfl rfl (HY1.out.boxi 1 rfl) rfl (by intro u hu; simp at hu; rcases hu with rfl | rfl | rfl | rfl | rfl <;> rfl) ?_
                    intro wy ho hO
                    have HY2 := Lib.hid (HY1.out.call1 1 rfl ho hO)
                    clear ho hO HY1
                    refine hK.out _ _ ⟨HY2.out.boxi 2 rfl, HY2.out.boxi 3 rfl⟩ (fun hSn => ?_)
                    clear hK K hSw0
                    have hSw0 := hSn
                    clear hSn
                    (try simp only [Act.put, List.setIfInBounds_toArray, List.set_cons_zero, List.set_cons_succ])
                    refine wpAnyH_take (i := 16) (oi := ⟨some 6, _, _, _, _, _⟩) (v := ?_) rfl (by kernel_rfl) (by kernel_rfl) (by kernel_rfl) (fun _ _ _ h => h) (Or.inl ⟨by rfl, ?_⟩) (by assumption) ?_
                    rotate_left
                    · intro w hSw
                      (try dsimp only at hSw)
                      go_simp
                      all_goals (try with_reducible rfl)
                    (try simp only [Act.put, List.setIfInBounds_toArray, List.set_cons_zero, List.set_cons_succ])
                    refine wpAnyH_done (by kernel_rfl) ?_ _
                    clear hSw0
                    have br := HY2.out.boxi 2 rfl
                    have bn := HY2.out.boxi 1 rfl
                    have r0 := br.cell 0 (by simp)
                    have r1 := br.cell 1 (by simp)
                    have r2 := br.cell 2 (by simp)
                    have r3 := br.cell 3 (by simp)
                    have r4 := br.cell 4 (by simp)
                    simp only [List.getElem_cons_zero, List.getElem_cons_succ] at r0 r1 r2 r3 r4
                    have n0 := bn.cell 0 (by simp)
                    have n1 := bn.cell 1 (by simp)
                    have n2 := bn.cell 2 (by simp)
                    have n3 := bn.cell 3 (by simp)
                    have n4 := bn.cell 4 (by simp)
                    simp only [List.getElem_cons_zero, List.getElem_cons_succ] at n0 n1 n2 n3 n4
                    clear br bn
                    go_wp2
                    (try simp only [Exit.inBlock, Exit.then])
                    refine bodyPost_ret (v := .tuple #[.agg #[.int .i64 rm, .int .i64 rn, .int .i64 rp, .slice s1 s2 s3, .slice t1 t2 t3], .agg #[.int .i64 q.s, .int .i64 (q.o + (j : Int)), .int .i64 (rn + 1), .int .i64 (sm : Nat), .int .i64 rm], .bool true]) ?_ rfl ?_
                    · simp only [results, HRES.out]
                      go_simp
                    · rw [HFOL.out]
                      have HYs : Wk w0 wb wy ((S, SB pd.D gb p own e 0) :: _ :: _ :: _ :: L) (_ :: G) (_ :: F) := HY2.out
                      exact ⟨(s1, s2, s3), (t1, t2, t3), by have h := HC1.out; subst h; rfl, ((HYs.sub (L' := (S, SB pd.D gb p own e 0) :: L) (.cons_cons _ (.cons _ (.cons _ (.cons _ (List.Sublist.refl _))))) (fun f hf => hf)).subG (G' := G) (by simp))⟩
                  · have hb1 : (rn != q.l) = false := by simp [c1]
                    have hb2 : (rp != q.p) = false := by simp [c2]
                    have hb3 : rm < q.m := by omega
                    clear c1 c2
                    go_wp2_with fail
                    have HY := Lib.hid HX.out.drew
                    clear HX
                    refine wp_region_held_drew (S := (fun w' => Kn.Own w' fn [.int .i64 0, .int .i64 0, .int .i64 0, .int .i64 0, .int .i64 0])) (by kernel_rfl) (HY.out.boxi 1 rfl) (fun hSw0 => ?_)
                    generalize w9.drew = wz at *
                    refine wpAnyH_take (i := 0) (oi := ⟨some 114, _, _, _, _, _⟩) (v := ?_) rfl (by kernel_rfl) (by kernel_rfl) (by kernel_rfl) (fun _ _ _ h => h) (Or.inl ⟨by rfl, ?_⟩) (by assumption) ?_
                    rotate_left
                    · intro w hSw
                      (try dsimp only at hSw)
                      go_simp
                      all_goals (try with_reducible rfl)
                    (try simp only [Act.put, List.setIfInBounds_toArray, List.set_cons_zero, List.set_cons_succ])
                    refine wpAnyH_take (i := 1) (oi := ⟨some 115, _, _, _, _, _⟩) (v := (.agg #[.int .i64 0, .int .i64 0, .int .i64 0, .int .i64 0, .int .i64 0])) rfl (by kernel_rfl) (by kernel_rfl) (by kernel_rfl) (fun _ _ _ h => h) (Or.inl ⟨by rfl, ?_⟩) (by assumption) ?_
                    · intro w hSw
                      have q0 := hSw
                      have q00 := q0.cell 0 (by simp)
                      have q01 := q0.cell 1 (by simp)
                      have q02 := q0.cell 2 (by simp)
                      have q03 := q0.cell 3 (by simp)
                      have q04 := q0.cell 4 (by simp)
                      simp only [List.getElem_cons_zero, List.getElem_cons_succ] at q00 q01 q02 q03 q04
                      clear q0
                      go_simp
                    (try simp only [Act.put, List.setIfInBounds_toArray, List.set_cons_zero, List.set_cons_succ])
                    refine wpAnyH_ready (rs := [2]) (by kernel_rfl) (by simp) ?_
                    refine AllReadyH.cons (o := ⟨none, _, _, _, _, _⟩) rfl (fun K hK => ?_) AllReadyH.nil
                    refine step_store_own rfl 56 (.tmp 4) (.tmp 114) rfl fr [.int .i64 rm, .int .i64 rn, .int .i64 rp, .slice s1 s2 s3, .slice t1 t2 t3] [.int .i64 0, .int .i64 0, .int .i64 0, .slice none 0 0, .slice none 0 0] (by kernel_rfl) rfl rfl (HY.out.boxi 2 rfl) rfl (by intro u hu; simp at hu; rcases hu with rfl | rfl <;> rfl) ?_
                    intro wa ho hO
                    have HY1 := Lib.hid (HY.out.call1 2 rfl ho hO)
                    clear ho hO HY
                    refine hK.out _ _ (HY1.out.boxi 1 rfl) (fun hSn => ?_)
                    clear hK K hSw0
                    have hSw0 := hSn
                    clear hSn
                    (try simp only [Act.put, List.setIfInBounds_toArray, List.set_cons_zero, List.set_cons_succ])
                    refine wpAnyH_ready (rs := [3]) (by kernel_rfl) (by simp) ?_
                    refine AllReadyH.cons (o := ⟨none, _, _, _, _, _⟩) rfl (fun K hK => ?_) AllReadyH.nil
                    refine step_store_own rfl 32 (.tmp 5) (.tmp 115) rfl fn [.int .i64 0, .int .i64 0, .int .i64 0, .int .i64 0, .int .i64 0] [.int .i64 0, .int .i64 0, .int .i64 0, .int .i64 0, .int .i64 0] (by kernel_rfl) rfl rfl (HY1.out.boxi 1 rfl) rfl (by intro u hu; simp at hu; subst hu; rfl) ?_
                    intro wy ho hO
                    have HY2 := Lib.hid (HY1.out.call1 1 rfl ho hO)
                    clear ho hO HY1
                    refine hK.out _ _ (HY2.out.boxi 1 rfl) (fun hSn => ?_)
                    clear hK K hSw0
                    have hSw0 := hSn
                    clear hSn
                    (try simp only [Act.put, List.setIfInBounds_toArray, List.set_cons_zero, List.set_cons_succ])
                    refine wpAnyH_take (i := 4) (oi := ⟨some 6, _, _, _, _, _⟩) (v := ?_) rfl (by kernel_rfl) (by kernel_rfl) (by kernel_rfl) (fun _ _ _ h => h) (Or.inl ⟨by rfl, ?_⟩) (by assumption) ?_
                    rotate_left
                    · intro w hSw
                      (try dsimp only at hSw)
                      go_simp
                      all_goals (try with_reducible rfl)
                    (try simp only [Act.put, List.setIfInBounds_toArray, List.set_cons_zero, List.set_cons_succ])
                    refine wpAnyH_done (by kernel_rfl) ?_ _
                    clear hSw0
                    have HFOL := Lib.hid (HFR.out.trans (if_neg (by intro h; omega)))
                    have br := HY2.out.boxi 2 rfl
                    have bn := HY2.out.boxi 1 rfl
                    have r0 := br.cell 0 (by simp)
                    have r1 := br.cell 1 (by simp)
                    have r2 := br.cell 2 (by simp)
                    have r3 := br.cell 3 (by simp)
                    have r4 := br.cell 4 (by simp)
                    simp only [List.getElem_cons_zero, List.getElem_cons_succ] at r0 r1 r2 r3 r4
                    have n0 := bn.cell 0 (by simp)
                    have n1 := bn.cell 1 (by simp)
                    have n2 := bn.cell 2 (by simp)
                    have n3 := bn.cell 3 (by simp)
                    have n4 := bn.cell 4 (by simp)
                    simp only [List.getElem_cons_zero, List.getElem_cons_succ] at n0 n1 n2 n3 n4
                    clear br bn
                    go_wp2
                    (try simp only [Exit.inBlock, Exit.then])
                    refine bodyPost_ret (v := .tuple #[.agg #[.int .i64 0, .int .i64 0, .int .i64 0, .slice none 0 0, .slice none 0 0], .agg #[.int .i64 0, .int .i64 0, .int .i64 0, .int .i64 0, .int .i64 0], .bool false]) ?_ rfl ?_
                    · simp only [results, HRES.out]
                      go_simp
                    · have HYs : Wk w0 wb wy ((S, SB pd.D gb p own e 0) :: (fn, [.int .i64 0, .int .i64 0, .int .i64 0, .int .i64 0, .int .i64 0]) :: (fr, [.int .i64 0, .int .i64 0, .int .i64 0, .slice none 0 0, .slice none 0 0]) :: (fq, [.int .i64 q.s, .int .i64 q.o, .int .i64 q.l, .int .i64 q.p, .int .i64 q.m]) :: L) (_ :: G) (_ :: F) := HY2.out
                      exact OneSays.no HFOL.out ((HYs.sub (L' := (S, SB pd.D gb p own e 0) :: L) (F' := F) (.cons_cons _ (.cons _ (.cons _ (.cons _ (List.Sublist.refl _))))) (fun f hf => List.mem_cons_of_mem _ hf)).subG (G' := G) (by simp))
                · have hb1 : (rn != q.l) = false := by simp [c1]
                  have hb2 : (rp != q.p) = true := by simpa using c2
                  clear c1
                  go_wp2_with fail
                  have HY := Lib.hid HX.out.drew
                  clear HX
                  refine wp_region_held_drew (S := (fun w' => Kn.Own w' fn [.int .i64 0, .int .i64 0, .int .i64 0, .int .i64 0, .int .i64 0])) (by kernel_rfl) (HY.out.boxi 1 rfl) (fun hSw0 => ?_)
                  generalize w9.drew = wz at *
                  refine wpAnyH_take (i := 0) (oi := ⟨some 114, _, _, _, _, _⟩) (v := ?_) rfl (by kernel_rfl) (by kernel_rfl) (by kernel_rfl) (fun _ _ _ h => h) (Or.inl ⟨by rfl, ?_⟩) (by assumption) ?_
                  rotate_left
                  · intro w hSw
                    (try dsimp only at hSw)
                    go_simp
                    all_goals (try with_reducible rfl)
                  (try simp only [Act.put, List.setIfInBounds_toArray, List.set_cons_zero, List.set_cons_succ])
                  refine wpAnyH_take (i := 1) (oi := ⟨some 115, _, _, _, _, _⟩) (v := (.agg #[.int .i64 0, .int .i64 0, .int .i64 0, .int .i64 0, .int .i64 0])) rfl (by kernel_rfl) (by kernel_rfl) (by kernel_rfl) (fun _ _ _ h => h) (Or.inl ⟨by rfl, ?_⟩) (by assumption) ?_
                  · intro w hSw
                    have q0 := hSw
                    have q00 := q0.cell 0 (by simp)
                    have q01 := q0.cell 1 (by simp)
                    have q02 := q0.cell 2 (by simp)
                    have q03 := q0.cell 3 (by simp)
                    have q04 := q0.cell 4 (by simp)
                    simp only [List.getElem_cons_zero, List.getElem_cons_succ] at q00 q01 q02 q03 q04
                    clear q0
                    go_simp
                  (try simp only [Act.put, List.setIfInBounds_toArray, List.set_cons_zero, List.set_cons_succ])
                  refine wpAnyH_ready (rs := [2]) (by kernel_rfl) (by simp) ?_
                  refine AllReadyH.cons (o := ⟨none, _, _, _, _, _⟩) rfl (fun K hK => ?_) AllReadyH.nil
                  refine step_store_own rfl 56 (.tmp 4) (.tmp 114) rfl fr [.int .i64 rm, .int .i64 rn, .int .i64 rp, .slice s1 s2 s3, .slice t1 t2 t3] [.int .i64 0, .int .i64 0, .int .i64 0, .slice none 0 0, .slice none 0 0] (by kernel_rfl) rfl rfl (HY.out.boxi 2 rfl) rfl (by intro u hu; simp at hu; rcases hu with rfl | rfl <;> rfl) ?_
                  intro wa ho hO
                  have HY1 := Lib.hid (HY.out.call1 2 rfl ho hO)
                  clear ho hO HY
                  refine hK.out _ _ (HY1.out.boxi 1 rfl) (fun hSn => ?_)
                  clear hK K hSw0
                  have hSw0 := hSn
                  clear hSn
                  (try simp only [Act.put, List.setIfInBounds_toArray, List.set_cons_zero, List.set_cons_succ])
                  refine wpAnyH_ready (rs := [3]) (by kernel_rfl) (by simp) ?_
                  refine AllReadyH.cons (o := ⟨none, _, _, _, _, _⟩) rfl (fun K hK => ?_) AllReadyH.nil
                  refine step_store_own rfl 32 (.tmp 5) (.tmp 115) rfl fn [.int .i64 0, .int .i64 0, .int .i64 0, .int .i64 0, .int .i64 0] [.int .i64 0, .int .i64 0, .int .i64 0, .int .i64 0, .int .i64 0] (by kernel_rfl) rfl rfl (HY1.out.boxi 1 rfl) rfl (by intro u hu; simp at hu; subst hu; rfl) ?_
                  intro wy ho hO
                  have HY2 := Lib.hid (HY1.out.call1 1 rfl ho hO)
                  clear ho hO HY1
                  refine hK.out _ _ (HY2.out.boxi 1 rfl) (fun hSn => ?_)
                  clear hK K hSw0
                  have hSw0 := hSn
                  clear hSn
                  (try simp only [Act.put, List.setIfInBounds_toArray, List.set_cons_zero, List.set_cons_succ])
                  refine wpAnyH_take (i := 4) (oi := ⟨some 6, _, _, _, _, _⟩) (v := ?_) rfl (by kernel_rfl) (by kernel_rfl) (by kernel_rfl) (fun _ _ _ h => h) (Or.inl ⟨by rfl, ?_⟩) (by assumption) ?_
                  rotate_left
                  · intro w hSw
                    (try dsimp only at hSw)
                    go_simp
                    all_goals (try with_reducible rfl)
                  (try simp only [Act.put, List.setIfInBounds_toArray, List.set_cons_zero, List.set_cons_succ])
                  refine wpAnyH_done (by kernel_rfl) ?_ _
                  clear hSw0
                  have HFOL := Lib.hid (HFR.out.trans (if_neg (by intro h; exact c2 h.2.1)))
                  have br := HY2.out.boxi 2 rfl
                  have bn := HY2.out.boxi 1 rfl
                  have r0 := br.cell 0 (by simp)
                  have r1 := br.cell 1 (by simp)
                  have r2 := br.cell 2 (by simp)
                  have r3 := br.cell 3 (by simp)
                  have r4 := br.cell 4 (by simp)
                  simp only [List.getElem_cons_zero, List.getElem_cons_succ] at r0 r1 r2 r3 r4
                  have n0 := bn.cell 0 (by simp)
                  have n1 := bn.cell 1 (by simp)
                  have n2 := bn.cell 2 (by simp)
                  have n3 := bn.cell 3 (by simp)
                  have n4 := bn.cell 4 (by simp)
                  simp only [List.getElem_cons_zero, List.getElem_cons_succ] at n0 n1 n2 n3 n4
                  clear br bn
                  go_wp2
                  (try simp only [Exit.inBlock, Exit.then])
                  refine bodyPost_ret (v := .tuple #[.agg #[.int .i64 0, .int .i64 0, .int .i64 0, .slice none 0 0, .slice none 0 0], .agg #[.int .i64 0, .int .i64 0, .int .i64 0, .int .i64 0, .int .i64 0], .bool false]) ?_ rfl ?_
                  · simp only [results, HRES.out]
                    go_simp
                  · have HYs : Wk w0 wb wy ((S, SB pd.D gb p own e 0) :: (fn, [.int .i64 0, .int .i64 0, .int .i64 0, .int .i64 0, .int .i64 0]) :: (fr, [.int .i64 0, .int .i64 0, .int .i64 0, .slice none 0 0, .slice none 0 0]) :: (fq, [.int .i64 q.s, .int .i64 q.o, .int .i64 q.l, .int .i64 q.p, .int .i64 q.m]) :: L) (_ :: G) (_ :: F) := HY2.out
                    exact OneSays.no HFOL.out ((HYs.sub (L' := (S, SB pd.D gb p own e 0) :: L) (F' := F) (.cons_cons _ (.cons _ (.cons _ (.cons _ (List.Sublist.refl _))))) (fun f hf => List.mem_cons_of_mem _ hf)).subG (G' := G) (by simp))
              · have hb1 : (rn != q.l) = true := by simpa using c1
                go_wp2_with fail
                have HY := Lib.hid HX.out.drew
                clear HX
                refine wp_region_held_drew (S := (fun w' => Kn.Own w' fn [.int .i64 0, .int .i64 0, .int .i64 0, .int .i64 0, .int .i64 0])) (by kernel_rfl) (HY.out.boxi 1 rfl) (fun hSw0 => ?_)
                generalize w9.drew = wz at *
                refine wpAnyH_take (i := 0) (oi := ⟨some 114, _, _, _, _, _⟩) (v := ?_) rfl (by kernel_rfl) (by kernel_rfl) (by kernel_rfl) (fun _ _ _ h => h) (Or.inl ⟨by rfl, ?_⟩) (by assumption) ?_
                rotate_left
                · intro w hSw
                  (try dsimp only at hSw)
                  go_simp
                  all_goals (try with_reducible rfl)
                (try simp only [Act.put, List.setIfInBounds_toArray, List.set_cons_zero, List.set_cons_succ])
                refine wpAnyH_take (i := 1) (oi := ⟨some 115, _, _, _, _, _⟩) (v := (.agg #[.int .i64 0, .int .i64 0, .int .i64 0, .int .i64 0, .int .i64 0])) rfl (by kernel_rfl) (by kernel_rfl) (by kernel_rfl) (fun _ _ _ h => h) (Or.inl ⟨by rfl, ?_⟩) (by assumption) ?_
                · intro w hSw
                  have q0 := hSw
                  have q00 := q0.cell 0 (by simp)
                  have q01 := q0.cell 1 (by simp)
                  have q02 := q0.cell 2 (by simp)
                  have q03 := q0.cell 3 (by simp)
                  have q04 := q0.cell 4 (by simp)
                  simp only [List.getElem_cons_zero, List.getElem_cons_succ] at q00 q01 q02 q03 q04
                  clear q0
                  go_simp
                (try simp only [Act.put, List.setIfInBounds_toArray, List.set_cons_zero, List.set_cons_succ])
                refine wpAnyH_ready (rs := [2]) (by kernel_rfl) (by simp) ?_
                refine AllReadyH.cons (o := ⟨none, _, _, _, _, _⟩) rfl (fun K hK => ?_) AllReadyH.nil
                refine step_store_own rfl 56 (.tmp 4) (.tmp 114) rfl fr [.int .i64 rm, .int .i64 rn, .int .i64 rp, .slice s1 s2 s3, .slice t1 t2 t3] [.int .i64 0, .int .i64 0, .int .i64 0, .slice none 0 0, .slice none 0 0] (by kernel_rfl) rfl rfl (HY.out.boxi 2 rfl) rfl (by intro u hu; simp at hu; rcases hu with rfl | rfl <;> rfl) ?_
                intro wa ho hO
                have HY1 := Lib.hid (HY.out.call1 2 rfl ho hO)
                clear ho hO HY
                refine hK.out _ _ (HY1.out.boxi 1 rfl) (fun hSn => ?_)
                clear hK K hSw0
                have hSw0 := hSn
                clear hSn
                (try simp only [Act.put, List.setIfInBounds_toArray, List.set_cons_zero, List.set_cons_succ])
                refine wpAnyH_ready (rs := [3]) (by kernel_rfl) (by simp) ?_
                refine AllReadyH.cons (o := ⟨none, _, _, _, _, _⟩) rfl (fun K hK => ?_) AllReadyH.nil
                refine step_store_own rfl 32 (.tmp 5) (.tmp 115) rfl fn [.int .i64 0, .int .i64 0, .int .i64 0, .int .i64 0, .int .i64 0] [.int .i64 0, .int .i64 0, .int .i64 0, .int .i64 0, .int .i64 0] (by kernel_rfl) rfl rfl (HY1.out.boxi 1 rfl) rfl (by intro u hu; simp at hu; subst hu; rfl) ?_
                intro wy ho hO
                have HY2 := Lib.hid (HY1.out.call1 1 rfl ho hO)
                clear ho hO HY1
                refine hK.out _ _ (HY2.out.boxi 1 rfl) (fun hSn => ?_)
                clear hK K hSw0
                have hSw0 := hSn
                clear hSn
                (try simp only [Act.put, List.setIfInBounds_toArray, List.set_cons_zero, List.set_cons_succ])
                refine wpAnyH_take (i := 4) (oi := ⟨some 6, _, _, _, _, _⟩) (v := ?_) rfl (by kernel_rfl) (by kernel_rfl) (by kernel_rfl) (fun _ _ _ h => h) (Or.inl ⟨by rfl, ?_⟩) (by assumption) ?_
                rotate_left
                · intro w hSw
                  (try dsimp only at hSw)
                  go_simp
                  all_goals (try with_reducible rfl)
                (try simp only [Act.put, List.setIfInBounds_toArray, List.set_cons_zero, List.set_cons_succ])
                refine wpAnyH_done (by kernel_rfl) ?_ _
                clear hSw0
                have HFOL := Lib.hid (HFR.out.trans (if_neg (by intro h; exact c1 h.1)))
                have br := HY2.out.boxi 2 rfl
                have bn := HY2.out.boxi 1 rfl
                have r0 := br.cell 0 (by simp)
                have r1 := br.cell 1 (by simp)
                have r2 := br.cell 2 (by simp)
                have r3 := br.cell 3 (by simp)
                have r4 := br.cell 4 (by simp)
                simp only [List.getElem_cons_zero, List.getElem_cons_succ] at r0 r1 r2 r3 r4
                have n0 := bn.cell 0 (by simp)
                have n1 := bn.cell 1 (by simp)
                have n2 := bn.cell 2 (by simp)
                have n3 := bn.cell 3 (by simp)
                have n4 := bn.cell 4 (by simp)
                simp only [List.getElem_cons_zero, List.getElem_cons_succ] at n0 n1 n2 n3 n4
                clear br bn
                go_wp2
                (try simp only [Exit.inBlock, Exit.then])
                refine bodyPost_ret (v := .tuple #[.agg #[.int .i64 0, .int .i64 0, .int .i64 0, .slice none 0 0, .slice none 0 0], .agg #[.int .i64 0, .int .i64 0, .int .i64 0, .int .i64 0, .int .i64 0], .bool false]) ?_ rfl ?_
                · simp only [results, HRES.out]
                  go_simp
                · have HYs : Wk w0 wb wy ((S, SB pd.D gb p own e 0) :: (fn, [.int .i64 0, .int .i64 0, .int .i64 0, .int .i64 0, .int .i64 0]) :: (fr, [.int .i64 0, .int .i64 0, .int .i64 0, .slice none 0 0, .slice none 0 0]) :: (fq, [.int .i64 q.s, .int .i64 q.o, .int .i64 q.l, .int .i64 q.p, .int .i64 q.m]) :: L) (_ :: G) (_ :: F) := HY2.out
                  exact OneSays.no HFOL.out ((HYs.sub (L' := (S, SB pd.D gb p own e 0) :: L) (F' := F) (.cons_cons _ (.cons _ (.cons _ (.cons _ (List.Sublist.refl _))))) (fun f hf => List.mem_cons_of_mem _ hf)).subG (G' := G) (by simp))
    · have hzb : decide (z = 0) = false := by simpa using hz0
      refine wpAnyH_take (i := 0) (oi := ⟨some 44, _, _, _, _, _⟩) (v := ?_) rfl (by kernel_rfl) (by kernel_rfl) (by kernel_rfl) (fun _ _ _ h => h) (Or.inl ⟨by rfl, ?_⟩) (by assumption) ?_
      rotate_left
      · intro w hSw
        (try dsimp only at hSw); have q0 := hSw.1.cell 1 (by simp); have q2 := hSw.2; simp only [List.getElem_cons_zero, List.getElem_cons_succ] at q0
        go_simp
        all_goals (try with_reducible rfl)
      (try simp only [Act.put, List.setIfInBounds_toArray, List.set_cons_zero, List.set_cons_succ])
      refine wpAnyH_take (i := 1) (oi := ⟨some 45, _, _, _, _, _⟩) (v := ?_) rfl (by kernel_rfl) (by kernel_rfl) (by kernel_rfl) (fun _ _ _ h => h) (Or.inl ⟨by rfl, ?_⟩) (by assumption) ?_
      rotate_left
      · intro w hSw
        (try dsimp only at hSw); have q0 := hSw.1.cell 1 (by simp); have q2 := hSw.2; simp only [List.getElem_cons_zero, List.getElem_cons_succ] at q0
        go_simp
        all_goals (try with_reducible rfl)
      (try simp only [Act.put, List.setIfInBounds_toArray, List.set_cons_zero, List.set_cons_succ])
      refine wpAnyH_take (i := 2) (oi := ⟨some 46, _, _, _, _, _⟩) (v := ?_) rfl (by kernel_rfl) (by kernel_rfl) (by kernel_rfl) (fun _ _ _ h => h) (Or.inl ⟨by rfl, ?_⟩) (by assumption) ?_
      rotate_left
      · intro w hSw
        (try dsimp only at hSw); have q0 := hSw.1.cell 1 (by simp); have q2 := hSw.2; simp only [List.getElem_cons_zero, List.getElem_cons_succ] at q0
        go_simp
        all_goals (try with_reducible rfl)
      (try simp only [Act.put, List.setIfInBounds_toArray, List.set_cons_zero, List.set_cons_succ])
      refine wpAnyH_take (i := 3) (oi := ⟨some 47, _, _, _, _, _⟩) (v := undef) rfl (by kernel_rfl) (by kernel_rfl) (by kernel_rfl) (fun _ _ _ h => h) (Or.inr ⟨by rfl, rfl⟩) (by assumption) ?_
      (try simp only [Act.put, List.setIfInBounds_toArray, List.set_cons_zero, List.set_cons_succ])
      refine wpAnyH_take (i := 4) (oi := ⟨some 48, _, _, _, _, _⟩) (v := undef) rfl (by kernel_rfl) (by kernel_rfl) (by kernel_rfl) (fun _ _ _ h => h) (Or.inr ⟨by rfl, rfl⟩) (by assumption) ?_
      (try simp only [Act.put, List.setIfInBounds_toArray, List.set_cons_zero, List.set_cons_succ])
      refine wpAnyH_take (i := 5) (oi := ⟨some 49, _, _, _, _, _⟩) (v := ?_) rfl (by kernel_rfl) (by kernel_rfl) (by kernel_rfl) (fun _ _ _ h => h) (Or.inl ⟨by rfl, ?_⟩) (by assumption) ?_
      rotate_left
      · intro w hSw
        (try dsimp only at hSw); have q0 := hSw.1.cell 1 (by simp); have q2 := hSw.2; simp only [List.getElem_cons_zero, List.getElem_cons_succ] at q0
        go_simp
        all_goals (try with_reducible rfl)
      (try simp only [Act.put, List.setIfInBounds_toArray, List.set_cons_zero, List.set_cons_succ])
      refine wpAnyH_take (i := 6) (oi := ⟨some 50, _, _, _, _, _⟩) (v := ?_) rfl (by kernel_rfl) (by kernel_rfl) (by kernel_rfl) (fun _ _ _ h => h) (Or.inl ⟨by rfl, ?_⟩) (by assumption) ?_
      rotate_left
      · intro w hSw
        (try dsimp only at hSw); have q0 := hSw.1.cell 1 (by simp); have q2 := hSw.2; simp only [List.getElem_cons_zero, List.getElem_cons_succ] at q0
        go_simp
        all_goals (try with_reducible rfl)
      (try simp only [Act.put, List.setIfInBounds_toArray, List.set_cons_zero, List.set_cons_succ])
      refine wpAnyH_take (i := 7) (oi := ⟨some 51, _, _, _, _, _⟩) (v := undef) rfl (by kernel_rfl) (by kernel_rfl) (by kernel_rfl) (fun _ _ _ h => h) (Or.inr ⟨by rfl, rfl⟩) (by assumption) ?_
      (try simp only [Act.put, List.setIfInBounds_toArray, List.set_cons_zero, List.set_cons_succ])
      refine wpAnyH_take (i := 8) (oi := ⟨some 52, _, _, _, _, _⟩) (v := undef) rfl (by kernel_rfl) (by kernel_rfl) (by kernel_rfl) (fun _ _ _ h => h) (Or.inr ⟨by rfl, rfl⟩) (by assumption) ?_
      (try simp only [Act.put, List.setIfInBounds_toArray, List.set_cons_zero, List.set_cons_succ])
      refine wpAnyH_take (i := 9) (oi := ⟨some 53, _, _, _, _, _⟩) (v := undef) rfl (by kernel_rfl) (by kernel_rfl) (by kernel_rfl) (fun _ _ _ h => h) (Or.inr ⟨by rfl, rfl⟩) (by assumption) ?_
      (try simp only [Act.put, List.setIfInBounds_toArray, List.set_cons_zero, List.set_cons_succ])
      refine wpAnyH_take (i := 10) (oi := ⟨some 54, _, _, _, _, _⟩) (v := undef) rfl (by kernel_rfl) (by kernel_rfl) (by kernel_rfl) (fun _ _ _ h => h) (Or.inr ⟨by rfl, rfl⟩) (by assumption) ?_
      (try simp only [Act.put, List.setIfInBounds_toArray, List.set_cons_zero, List.set_cons_succ])
      refine wpAnyH_take (i := 11) (oi := ⟨some 55, _, _, _, _, _⟩) (v := undef) rfl (by kernel_rfl) (by kernel_rfl) (by kernel_rfl) (fun _ _ _ h => h) (Or.inr ⟨by rfl, rfl⟩) (by assumption) ?_
      (try simp only [Act.put, List.setIfInBounds_toArray, List.set_cons_zero, List.set_cons_succ])
      refine wpAnyH_take (i := 12) (oi := ⟨some 56, _, _, _, _, _⟩) (v := undef) rfl (by kernel_rfl) (by kernel_rfl) (by kernel_rfl) (fun _ _ _ h => h) (Or.inr ⟨by rfl, rfl⟩) (by assumption) ?_
      (try simp only [Act.put, List.setIfInBounds_toArray, List.set_cons_zero, List.set_cons_succ])
      refine wpAnyH_take (i := 13) (oi := ⟨some 57, _, _, _, _, _⟩) (v := undef) rfl (by kernel_rfl) (by kernel_rfl) (by kernel_rfl) (fun _ _ _ h => h) (Or.inr ⟨by rfl, rfl⟩) (by assumption) ?_
      (try simp only [Act.put, List.setIfInBounds_toArray, List.set_cons_zero, List.set_cons_succ])
      refine wpAnyH_take (i := 14) (oi := ⟨some 58, _, _, _, _, _⟩) (v := undef) rfl (by kernel_rfl) (by kernel_rfl) (by kernel_rfl) (fun _ _ _ h => h) (Or.inr ⟨by rfl, rfl⟩) (by assumption) ?_
      (try simp only [Act.put, List.setIfInBounds_toArray, List.set_cons_zero, List.set_cons_succ])
      refine wpAnyH_take (i := 15) (oi := ⟨some 59, _, _, _, _, _⟩) (v := undef) rfl (by kernel_rfl) (by kernel_rfl) (by kernel_rfl) (fun _ _ _ h => h) (Or.inr ⟨by rfl, rfl⟩) (by assumption) ?_
      (try simp only [Act.put, List.setIfInBounds_toArray, List.set_cons_zero, List.set_cons_succ])
      refine wpAnyH_take (i := 16) (oi := ⟨some 60, _, _, _, _, _⟩) (v := undef) rfl (by kernel_rfl) (by kernel_rfl) (by kernel_rfl) (fun _ _ _ h => h) (Or.inr ⟨by rfl, rfl⟩) (by assumption) ?_
      (try simp only [Act.put, List.setIfInBounds_toArray, List.set_cons_zero, List.set_cons_succ])
      refine wpAnyH_take (i := 17) (oi := ⟨some 61, _, _, _, _, _⟩) (v := undef) rfl (by kernel_rfl) (by kernel_rfl) (by kernel_rfl) (fun _ _ _ h => h) (Or.inr ⟨by rfl, rfl⟩) (by assumption) ?_
      (try simp only [Act.put, List.setIfInBounds_toArray, List.set_cons_zero, List.set_cons_succ])
      refine wpAnyH_take (i := 18) (oi := ⟨some 62, _, _, _, _, _⟩) (v := ?_) rfl (by kernel_rfl) (by kernel_rfl) (by kernel_rfl) (fun _ _ _ h => h) (Or.inl ⟨by rfl, ?_⟩) (by assumption) ?_
      rotate_left
      · intro w hSw
        (try dsimp only at hSw); have q0 := hSw.1.cell 1 (by simp); have q2 := hSw.2; simp only [List.getElem_cons_zero, List.getElem_cons_succ] at q0
        go_simp
        all_goals (try with_reducible rfl)
      (try simp only [Act.put, List.setIfInBounds_toArray, List.set_cons_zero, List.set_cons_succ])
      refine wpAnyH_done (by kernel_rfl) ?_ _
      clear hSw7
      go_wp2_with fail
      have HY := Lib.hid HQ6.out.drew
      clear HQ6
      refine wp_region_held_drew (S := (fun w' => Kn.Own w' fr [.int .i64 0, .int .i64 0, .int .i64 0, .slice none 0 0, .slice none 0 0] ∧ Kn.Own w' fn [.int .i64 0, .int .i64 0, .int .i64 0, .int .i64 0, .int .i64 0])) (by kernel_rfl) ⟨HY.out.boxi 2 rfl, HY.out.boxi 1 rfl⟩ (fun hSw0 => ?_)
      generalize v7.drew = wz at *
      refine wpAnyH_take (i := 0) (oi := ⟨some 63, _, _, _, _, _⟩) (v := (.agg #[.int .i64 0, .int .i64 0, .int .i64 0, .slice none 0 0, .slice none 0 0])) rfl (by kernel_rfl) (by kernel_rfl) (by kernel_rfl) (fun _ _ _ h => h) (Or.inl ⟨by rfl, ?_⟩) (by assumption) ?_
      · intro w hSw
        have q0 := hSw.1
        have q00 := q0.cell 0 (by simp)
        have q01 := q0.cell 1 (by simp)
        have q02 := q0.cell 2 (by simp)
        have q03 := q0.cell 3 (by simp)
        have q04 := q0.cell 4 (by simp)
        simp only [List.getElem_cons_zero, List.getElem_cons_succ] at q00 q01 q02 q03 q04
        clear q0
        go_simp
      (try simp only [Act.put, List.setIfInBounds_toArray, List.set_cons_zero, List.set_cons_succ])
      refine wpAnyH_take (i := 1) (oi := ⟨some 64, _, _, _, _, _⟩) (v := (.agg #[.int .i64 0, .int .i64 0, .int .i64 0, .int .i64 0, .int .i64 0])) rfl (by kernel_rfl) (by kernel_rfl) (by kernel_rfl) (fun _ _ _ h => h) (Or.inl ⟨by rfl, ?_⟩) (by assumption) ?_
      · intro w hSw
        have q0 := hSw.2
        have q00 := q0.cell 0 (by simp)
        have q01 := q0.cell 1 (by simp)
        have q02 := q0.cell 2 (by simp)
        have q03 := q0.cell 3 (by simp)
        have q04 := q0.cell 4 (by simp)
        simp only [List.getElem_cons_zero, List.getElem_cons_succ] at q00 q01 q02 q03 q04
        clear q0
        go_simp
      (try simp only [Act.put, List.setIfInBounds_toArray, List.set_cons_zero, List.set_cons_succ])
      refine wpAnyH_ready (rs := [2]) (by kernel_rfl) (by simp) ?_
      refine AllReadyH.cons (o := ⟨none, _, _, _, _, _⟩) rfl (fun K hK => ?_) AllReadyH.nil
      refine step_store_own rfl 56 (.tmp 4) (.tmp 63) rfl fr [.int .i64 0, .int .i64 0, .int .i64 0, .slice none 0 0, .slice none 0 0] [.int .i64 0, .int .i64 0, .int .i64 0, .slice none 0 0, .slice none 0 0] (by kernel_rfl) rfl rfl (HY.out.boxi 2 rfl) rfl (by intro u hu; simp at hu; rcases hu with rfl | rfl <;> rfl) ?_
      intro wa ho hO
      have HY1 := Lib.hid (HY.out.call1 2 rfl ho hO)
      clear ho hO HY
      refine hK.out _ _ ⟨HY1.out.boxi 2 rfl, HY1.out.boxi 1 rfl⟩ (fun hSn => ?_)
      clear hK K hSw0
      have hSw0 := hSn
      clear hSn
      (try simp only [Act.put, List.setIfInBounds_toArray, List.set_cons_zero, List.set_cons_succ])
      refine wpAnyH_ready (rs := [3]) (by kernel_rfl) (by simp) ?_
      refine AllReadyH.cons (o := ⟨none, _, _, _, _, _⟩) rfl (fun K hK => ?_) AllReadyH.nil
      refine step_store_own rfl 32 (.tmp 5) (.tmp 64) rfl fn [.int .i64 0, .int .i64 0, .int .i64 0, .int .i64 0, .int .i64 0] [.int .i64 0, .int .i64 0, .int .i64 0, .int .i64 0, .int .i64 0] (by kernel_rfl) rfl rfl (HY1.out.boxi 1 rfl) rfl (by intro u hu; simp at hu; subst hu; rfl) ?_
      intro wy ho hO
      have HY2 := Lib.hid (HY1.out.call1 1 rfl ho hO)
      clear ho hO HY1
      refine hK.out _ _ ⟨HY2.out.boxi 2 rfl, HY2.out.boxi 1 rfl⟩ (fun hSn => ?_)
      clear hK K hSw0
      have hSw0 := hSn
      clear hSn
      (try simp only [Act.put, List.setIfInBounds_toArray, List.set_cons_zero, List.set_cons_succ])
      refine wpAnyH_take (i := 4) (oi := ⟨some 6, _, _, _, _, _⟩) (v := ?_) rfl (by kernel_rfl) (by kernel_rfl) (by kernel_rfl) (fun _ _ _ h => h) (Or.inl ⟨by rfl, ?_⟩) (by assumption) ?_
      rotate_left
      · intro w hSw
        (try dsimp only at hSw)
        go_simp
        all_goals (try with_reducible rfl)
      (try simp only [Act.put, List.setIfInBounds_toArray, List.set_cons_zero, List.set_cons_succ])
      refine wpAnyH_done (by kernel_rfl) ?_ _
      clear hSw0
      have HFOL := Lib.hid ((follow_err (d := d) (c := cf) (p := q) ⟨ho0, by omega⟩ HA.out (by rw [HZ.out]; exact hz0)).trans (by rw [HZ.out]))
      have br := HY2.out.boxi 2 rfl
      have bn := HY2.out.boxi 1 rfl
      have r0 := br.cell 0 (by simp)
      have r1 := br.cell 1 (by simp)
      have r2 := br.cell 2 (by simp)
      have r3 := br.cell 3 (by simp)
      have r4 := br.cell 4 (by simp)
      simp only [List.getElem_cons_zero, List.getElem_cons_succ] at r0 r1 r2 r3 r4
      have n0 := bn.cell 0 (by simp)
      have n1 := bn.cell 1 (by simp)
      have n2 := bn.cell 2 (by simp)
      have n3 := bn.cell 3 (by simp)
      have n4 := bn.cell 4 (by simp)
      simp only [List.getElem_cons_zero, List.getElem_cons_succ] at n0 n1 n2 n3 n4
      clear br bn
      go_wp2
      (try simp only [Exit.inBlock, Exit.then])
      refine bodyPost_ret (v := .tuple #[.agg #[.int .i64 0, .int .i64 0, .int .i64 0, .slice none 0 0, .slice none 0 0], .agg #[.int .i64 0, .int .i64 0, .int .i64 0, .int .i64 0, .int .i64 0], .bool false]) ?_ rfl ?_
      · simp only [results, HRES.out]
        go_simp
      · have HYs : Wk w0 wb wy ((S, SB pd.D gb p own e z) :: (fn, [.int .i64 0, .int .i64 0, .int .i64 0, .int .i64 0, .int .i64 0]) :: (fr, [.int .i64 0, .int .i64 0, .int .i64 0, .slice none 0 0, .slice none 0 0]) :: (fq, [.int .i64 q.s, .int .i64 q.o, .int .i64 q.l, .int .i64 q.p, .int .i64 q.m]) :: L) (_ :: G) F := HY2.out
        exact OneSays.no HFOL.out ((HYs.sub (L' := (S, SB pd.D gb p own e z) :: L) (F' := F) (.cons_cons _ (.cons _ (.cons _ (.cons _ (List.Sublist.refl _))))) (fun f hf => hf)).subG (G' := G) (by simp))
end Go.Proofs.YtgcfdjcpcclcjaaGreat
namespace Go.Kn
open Go Go.RowKit
/-- a record that was told, and where it stands -/
structure Fnd where
  p : Ps
  r : Rc
  s : Option Addr × Nat × Nat
  t : Option Addr × Nat × Nat
def Fnd.enc (x : Fnd) : Array Value := #[.agg #[.int .i64 x.p.s, .int .i64 x.p.o, .int .i64 x.p.l, .int .i64 x.p.p, .int .i64 x.p.m], .agg (x.r.cells x.s x.t)]
def Fnd.fct (x : Fnd) : World → Prop := fun W => RcAt W x.r x.s x.t
def Fnd.pr (x : Fnd) : Ps × Rc := (x.p, x.r)
theorem scanG_some {d : Dk} {c : Cf} {k : Nat} {p q : Ps} {r : Rc} {e : Int} (h : follow d c p = (some (r, q), e)) : scanG d c (k + 1) p = if (nextOf r).isSome then ([(p, r)], q, 0) else ((p, r) :: (scanG d c k q).1, (scanG d c k q).2) := by
  rw [scanG, h]
theorem scanG_none {d : Dk} {c : Cf} {k : Nat} {p : Ps} {e : Int} (h : follow d c p = (none, e)) : scanG d c (k + 1) p = ([], p, e) := by
  rw [scanG, h]
theorem follow_place {d : Dk} {c : Cf} {p q : Ps} {r : Rc} {e : Int} (h : follow d c p = (some (r, q), e)) : q.s = p.s ∧ p.o < q.o ∧ q.o ≤ c.l ∧ e = 0 := by
  unfold follow at h
  split at h
  · split at h
    · split at h
      · cases h
      · rename_i hs
        split at h
        · split at h
          · cases h
          · split at h
            · injection h with h1 h2
              injection h1 with h1
              injection h1 with h1 h3
              subst h3
              simp only
              refine ⟨trivial, ?_, ?_, h2.symm⟩ <;> omega
            · cases h
        · cases h
    · cases h
  · cases h
theorem scanG_len (d : Dk) (c : Cf) : ∀ (k : Nat) (p : Ps), (scanG d c k p).1.length ≤ k
  | 0, _ => Nat.zero_le _
  | k + 1, p => by
    have ih := scanG_len d c k
    rcases h : follow d c p with ⟨_ | ⟨r, q⟩, e⟩
    · rw [scanG_none h]; simp
    · rw [scanG_some h]
      split
      · simp
      · simpa using ih q
theorem scanR_len (d : Dk) (c : Cf) (own : Bool) (p : Ps) : (scanR d c own p).1.length ≤ 65 := by
  unfold scanR
  split
  · exact scanG_len _ _ _ _
  · simp
/-- where a scan may begin -/
theorem scanB_place {d : Dk} {c : Cf} {own : Bool} {p : Ps} (hc : c.Ok) (h : (scanB d c own p).2.1 = true) : (0 ≤ (scanB d c own p).1.s ∧ (scanB d c own p).1.s ≤ c.s - 1) ∧ 1 ≤ (scanB d c own p).1.o ∧ (scanB d c own p).1.o ≤ 64 ∧ (scanB d c own p).2.2 = 0 := by
  have hl := hc.2.2
  unfold scanB at h ⊢
  split
  · rename_i hp
    split
    · refine ⟨hp.1, ?_, ?_, rfl⟩ <;> simp only <;> omega
    · split
      · split
        · rename_i h1 h2 h3 h4
          rw [if_pos hp, if_neg h1, if_pos h2, h4] at h
          cases h
        · rename_i h1 h2 h3 hd h4
          split
          · exact ⟨hp.1, by simp, by simp, rfl⟩
          · rename_i h5
            rw [if_pos hp, if_neg h1, if_pos h2, h4] at h
            simp only at h
            rw [if_neg h5] at h
            cases h
      · rename_i h1 h2
        rw [if_pos hp, if_neg h1, if_neg h2] at h
        cases h
  · rename_i hp
    rw [if_neg hp] at h
    cases h
theorem at3_mk {w0 w : World} {L L' : List (Nat × List Value)} {G G' : List Gs} {fs F F' : List (World → Prop)} (h : Wc w0 w (L ++ L') (G ++ G') (fs ++ (F ++ F'))) : At3 w0 w ⟨L, G, fs ++ F⟩ ⟨L', G', F'⟩ := by
  show Wc w0 w _ _ ((fs ++ F) ++ F')
  rw [List.append_assoc]
  exact h
theorem at3_get {w0 w : World} {L : List (Nat × List Value)} {G : List Gs} {fs F : List (World → Prop)} {c : Fr3} (h : At3 w0 w ⟨L, G, fs ++ F⟩ c) : Wc w0 w (L ++ c.L) (G ++ c.G) (fs ++ (F ++ c.F)) := by
  have h2 : Wc w0 w (L ++ c.L) (G ++ c.G) ((fs ++ F) ++ c.F) := h
  rwa [List.append_assoc] at h2
def offAt (w : World) (b : Nat) : Nat := match w.cell? ⟨b, 1, none⟩ with | some (.int _ o) => o.toNat | _ => 0
theorem offAt_eq {w : World} {b : Nat} {k : IntKind} {o : Int} (h : w.cell? ⟨b, 1, none⟩ = some (.int k o)) : offAt w b = o.toNat := by
  unfold offAt
  rw [h]
end Go.Kn
namespace Go.Proofs.YtgcfdjcpcclcjaaGreat
open Go Go.RowKit Go.Kn
attribute [local go_sem] Oper.semAt_some
section
variable (S D gb : Nat) (d : Dk) (cf : Cf) (p : Ps) (own : Bool) (L : List (Nat × List Value)) (G : List Gs) (F : List (World → Prop))
def PlPre (pre : List Fnd) (x : Fnd) (φ : Fr3) : Prop := ∃ (b3 : Nat) (q : Ps) (fs : List (World → Prop)), φ = ⟨(S, SB D gb p own q 0) :: (b3, [.int .i64 x.p.s, .int .i64 x.p.o, .int .i64 x.p.l, .int .i64 x.p.p, .int .i64 x.p.m]) :: L, G, fs ++ F⟩ ∧ (∀ y ∈ pre ++ [x], y.fct ∈ fs) ∧ (pre ++ [x]).map Fnd.pr <+: (scanR d cf own p).1 ∧ Kn.follow d cf x.p = (some (x.r, q), 0)
def PlFin (xs : List Fnd) (φ : Fr3) : Prop := ∃ fs : List (World → Prop), φ = ⟨(S, SB D gb p own (scanR d cf own p).2.1 (scanR d cf own p).2.2) :: L, G, fs ++ F⟩ ∧ (∀ y ∈ xs, y.fct ∈ fs) ∧ xs.map Fnd.pr = (scanR d cf own p).1
def PlFix (pre : List Fnd) (φ : Fr3) : Prop := ∃ (e : Ps) (fs : List (World → Prop)), φ = ⟨(S, SB D gb p own e 0) :: L, G, fs ++ F⟩ ∧ (∀ y ∈ pre, y.fct ∈ fs) ∧ pre.map Fnd.pr <+: (scanR d cf own p).1 ∧ ∃ pre' x, pre = pre' ++ [x] ∧ Kn.follow d cf x.p = (some (x.r, e), 0)
end
set_option maxRecDepth 100000 in
set_option maxHeartbeats 8000000 in
theorem places1_seq (w0 W : World) (S b1 gb : Nat) (pd : PD) (d : Dk) (cf : Cf) (p : Ps) (own : Bool) (e : Ps) (er : Int) (L : List (Nat × List Value)) (G : List Gs) (F : List (World → Prop)) (n : Nat) (hn : 1 ≤ n)
    (hd : DkIn pd d L) (hb1 : (b1, [.pointer (some ⟨S, 0, none⟩)]) ∈ L) (hg : (fun W => GeoAt W gb cf.b cf.s cf.l) ∈ F) (hc : cf.Ok) :
    SeqW Fence.wide n Tryz.prog 151 #[.pointer (some ⟨b1, 0, none⟩)] Fnd.enc (PlPre S pd.D gb d cf p own L G F) (PlFin S pd.D gb d cf p own L G F) (PlFix S pd.D gb d cf p own L G F) 65 w0 W ⟨(S, SB pd.D gb p own e er) :: L, G, F⟩ := by
  intro l J c0 hJc hY hJ0 hA
  have hA' : Wc w0 W ((S, SB pd.D gb p own e er) :: (L ++ c0.L)) (G ++ c0.G) (F ++ c0.F) := hA
  have c1 : W.cell? ⟨b1, 0, none⟩ = some (.pointer (some ⟨S, 0, none⟩)) := (hA'.own _ (List.mem_cons_of_mem _ (List.mem_append_left _ hb1))).cell 0 (by simp)
  have HA := Lib.hid hA'
  have HB1 := Lib.hid hb1
  have HDK := Lib.hid hd
  have HG := Lib.hid hg
  have HC := Lib.hid hc
  clear hA hA' hd hg hb1
  refine callsIn_of_wp Tryz.func151 rfl trivial ?_ rfl
  simp only [Tryz.ntmps151, List.size_toArray, List.length_cons, List.length_nil, Nat.reduceAdd, Nat.reduceSub, Array.replicate_succ, Array.replicate_zero, List.push_toArray, List.append_toArray, List.nil_append, List.cons_append]
  gi_wp2_with fail
  refine ⟨trivial, callsIn_wide.2 ((scan_begin_any w0 W S gb pd d cf p own e er (L ++ c0.L) (G ++ c0.G) (F ++ c0.F) (Wk.start HA.out) (HDK.out.mono (fun x hx => List.mem_append_left _ hx)) (List.mem_append_left _ HG.out) HC.out).mono ?_)⟩
  rintro en w1 ⟨rfl, hw1⟩
  obtain ⟨⟨pj, ok, er2⟩, hbg⟩ : ∃ x, scanB d cf own p = x := ⟨_, rfl⟩
  rw [hbg] at hw1 ⊢
  simp only at hw1 ⊢
  have HW1 := Lib.hid hw1
  clear hw1 c1 HA
  have bS := HW1.out.boxi 0 (p := S) rfl
  have s8 := bS.cell 8 (by simp [SB])
  have s9 := bS.cell 9 (by simp [SB])
  have s10 := bS.cell 10 (by simp [SB])
  have s11 := bS.cell 11 (by simp [SB])
  have s12 := bS.cell 12 (by simp [SB])
  simp only [SB, List.getElem_cons_zero, List.getElem_cons_succ] at s8 s9 s10 s11 s12
  have z8 := bS.frozen 8
  have z9 := bS.frozen 9
  have z10 := bS.frozen 10
  have z11 := bS.frozen 11
  have z12 := bS.frozen 12
  have lS := bS.lt
  have bB := HW1.out.own _ (List.mem_cons_of_mem _ (List.mem_append_left _ HB1.out))
  have c1 := bB.cell 0 (by simp)
  have lB := bB.lt
  simp only [List.getElem_cons_zero] at c1
  gi_wp2_with fail
  have hw2 : Wk w0 W ((((((w1.setCell ⟨S, 8, none⟩ (.int .i64 pj.s)).setCell ⟨S, 9, none⟩ (.int .i64 pj.o)).setCell ⟨S, 10, none⟩ (.int .i64 pj.l)).setCell ⟨S, 11, none⟩ (.int .i64 pj.p)).setCell ⟨S, 12, none⟩ (.int .i64 pj.m)).alloc (.cells #[.int .i64 pj.s, .int .i64 pj.o, .int .i64 pj.l, .int .i64 pj.p, .int .i64 pj.m] 32)) ((S, SB pd.D gb p own pj er2) :: (w1.heap.size, [.int .i64 pj.s, .int .i64 pj.o, .int .i64 pj.l, .int .i64 pj.p, .int .i64 pj.m]) :: (L ++ c0.L)) (G ++ c0.G) (F ++ c0.F) :=
    ((((((HW1.out.put 0 (p := S) rfl 8 (.int .i64 pj.s)).put 0 (p := S) rfl 9 (.int .i64 pj.o)).put 0 (p := S) rfl 10 (.int .i64 pj.l)).put 0 (p := S) rfl 11 (.int .i64 pj.p)).put 0 (p := S) rfl 12 (.int .i64 pj.m)).newB #[.int .i64 pj.s, .int .i64 pj.o, .int .i64 pj.l, .int .i64 pj.p, .int .i64 pj.m] 32 (by simp)).perm (List.Perm.swap _ _ _) (List.Perm.refl _)
  have HW2 := Lib.hid hw2
  clear hw2 bS bB c1 lB lS s8 s9 s10 s11 s12 z8 z9 z10 z11 z12 HW1
  generalize (((((w1.setCell ⟨S, 8, none⟩ (.int .i64 pj.s)).setCell ⟨S, 9, none⟩ (.int .i64 pj.o)).setCell ⟨S, 10, none⟩ (.int .i64 pj.l)).setCell ⟨S, 11, none⟩ (.int .i64 pj.p)).setCell ⟨S, 12, none⟩ (.int .i64 pj.m)).alloc (.cells #[.int .i64 pj.s, .int .i64 pj.o, .int .i64 pj.l, .int .i64 pj.p, .int .i64 pj.m] 32) = w2 at *
  generalize w1.heap.size = b3 at *
  have hs2 : W.heap.size ≤ w2.heap.size := HW2.out.hs
  have hJ2 : J none [] c0 w2 := hJc _ _ _ _ _ hJ0 HW2.out.kb
  gi_loopw [4] (fun t4 wr => ∃ (pre : List Fnd) (c : Fr3) (fs : List (World → Prop)) (pj : Ps) (ok : Bool) (er : Int) (k : Nat), t4 = .bool ok ∧ Wc w0 wr ((S, SB pd.D gb p own pj er) :: (b3, [.int .i64 pj.s, .int .i64 pj.o, .int .i64 pj.l, .int .i64 pj.p, .int .i64 pj.m]) :: (L ++ c.L)) (G ++ c.G) (fs ++ (F ++ c.F)) ∧ (∀ y ∈ pre, y.fct ∈ fs) ∧ J none pre c wr ∧ W.heap.size ≤ wr.heap.size ∧
    ((ok = true ∧ er = 0 ∧ scanR d cf own p = (pre.map Fnd.pr ++ (scanG d cf k pj).1, (scanG d cf k pj).2) ∧ 65 ≤ (k : Int) + pj.o ∧ 1 ≤ pj.o ∧ pj.o ≤ 64 ∧ 0 ≤ pj.s ∧ pj.s ≤ cf.s - 1) ∨ (ok = false ∧ scanR d cf own p = (pre.map Fnd.pr, pj, er)))) (fun _ wr => 65 - offAt wr b3)
  case atStart =>
    refine ⟨[], c0, [], pj, ok, er2, 65, rfl, HW2.out.toWc, by simp, hJ2, hs2, ?_⟩
    cases ok with
    | true =>
      have hpl := scanB_place (d := d) (own := own) (p := p) HC.out (by rw [hbg])
      rw [hbg] at hpl
      obtain ⟨⟨h1, h2⟩, h3, h4, h5⟩ := hpl
      simp only at h1 h2 h3 h4 h5
      refine .inl ⟨rfl, h5, ?_, by omega, h3, h4, h1, h2⟩
      unfold scanR
      rw [hbg]
      simp
    | false =>
      refine .inr ⟨rfl, ?_⟩
      unfold scanR
      rw [hbg]
      simp
  case round =>
    clear HW2 hs2 hJ2
    obtain ⟨pre, c, fs, pj, ok, er, k, rfl, hw, hfs, hJp, hsz, hst⟩ := hrel
    rcases hst with ⟨rfl, rfl, hsc, hk65, ho1, ho64, hs0, hs1⟩ | ⟨rfl, hsc⟩
    · have HW := Lib.hid (Wk.start hw)
      have HS := Lib.hid hsc
      have HFS := Lib.hid hfs
      have HOF2 : Hid (offAt wr b3 = pj.o.toNat) := Lib.hid (offAt_eq (k := .i64) (by simpa using (HW.out.boxi 1 rfl).cell 1 (by simp)))
      have bS := HW.out.boxi 1 rfl
      have p0 := bS.cell 0 (by simp)
      have p1 := bS.cell 1 (by simp)
      have p2 := bS.cell 2 (by simp)
      have p3 := bS.cell 3 (by simp)
      have p4 := bS.cell 4 (by simp)
      simp only [List.getElem_cons_zero, List.getElem_cons_succ] at p0 p1 p2 p3 p4
      have c1 := (HW.out.own _ (List.mem_cons_of_mem _ (List.mem_cons_of_mem _ (List.mem_append_left _ HB1.out)))).cell 0 (by simp)
      simp only [List.getElem_cons_zero] at c1
      clear hw bS hsc hfs
      gi_wp2_with fail
      refine ⟨trivial, callsIn_wide.2 ((scan_one_any w0 wr S gb pd d cf p own pj pj (_ :: (L ++ c.L)) (G ++ c.G) (fs ++ (F ++ c.F)) HW.out (HDK.out.mono (fun x hx => List.mem_cons_of_mem _ (List.mem_append_left _ hx))) (List.mem_append_right _ (List.mem_append_left _ HG.out)) HC.out ⟨ho1, ho64⟩ ⟨hs0, hs1⟩).mono ?_)⟩
      obtain ⟨x, hfo⟩ : ∃ x, Kn.follow d cf pj = x := ⟨_, rfl⟩
      have HFO := Lib.hid hfo
      rw [hfo]
      clear hfo HW p0 p1 p2 p3 p4 c1
      rcases x with ⟨_ | ⟨r, q⟩, e1⟩
      · rintro en w3 ⟨rfl, hw3⟩
        have HW3 := Lib.hid hw3
        clear hw3
        gi_wp2_with fail
        obtain ⟨k, rfl⟩ : ∃ k', k = k' + 1 := ⟨k - 1, by omega⟩
        have he : scanR d cf own p = (pre.map Fnd.pr, pj, e1) := by rw [HS.out, scanG_none HFO.out, List.append_nil]
        have hO4 : Only [] w3 ((w3.alloc (.cells #[.int .i64 0, .int .i64 0, .int .i64 0, .slice none 0 0, .slice none 0 0] 56)).alloc (.cells #[.int .i64 0, .int .i64 0, .int .i64 0, .int .i64 0, .int .i64 0] 32)) := ((Only.refl _ _).alloc _).alloc _
        have hw4 := HW3.out.keep0 hO4
        refine bodyPost_ret (results_none rfl _ _ _) rfl ⟨⟨_, rfl⟩, Nat.le_trans hsz hw4.hs, ⟨(S, SB pd.D gb p own pj e1) :: L, G, fs ++ F⟩, c, ?_, .inl ⟨pre, ⟨fs, by rw [he], HFS.out, by rw [he]⟩, hJc _ _ _ _ _ hJp (hw4.kb.mono hsz)⟩⟩
        exact at3_mk (hw4.sub (L' := (S, SB pd.D gb p own pj e1) :: (L ++ c.L)) (F' := fs ++ (F ++ c.F)) (.cons_cons _ (.cons _ (List.Sublist.refl _))) (fun f hf => hf)).toWc
      · rintro en w3 ⟨⟨s1, s2, s3⟩, ⟨t1, t2, t3⟩, rfl, hw3⟩
        have HW3 := Lib.hid hw3
        clear hw3
        have bS := HW3.out.boxi 0 (p := S) rfl
        have s8 := bS.cell 8 (by simp [SB])
        have s9 := bS.cell 9 (by simp [SB])
        have s10 := bS.cell 10 (by simp [SB])
        have s11 := bS.cell 11 (by simp [SB])
        have s12 := bS.cell 12 (by simp [SB])
        simp only [SB, List.getElem_cons_zero, List.getElem_cons_succ] at s8 s9 s10 s11 s12
        have z8 := bS.frozen 8
        have z9 := bS.frozen 9
        have z10 := bS.frozen 10
        have z11 := bS.frozen 11
        have z12 := bS.frozen 12
        have lS := bS.lt
        have bB := HW3.out.own _ (List.mem_cons_of_mem _ (List.mem_cons_of_mem _ (List.mem_append_left _ HB1.out)))
        have c1 := bB.cell 0 (by simp)
        have lB := bB.lt
        simp only [List.getElem_cons_zero] at c1
        simp only [Rc.cells, slv]
        gi_wp2_with fail
        have hw4 : Wk w0 wr (((((((w3.setCell ⟨S, 8, none⟩ (.int .i64 q.s)).setCell ⟨S, 9, none⟩ (.int .i64 q.o)).setCell ⟨S, 10, none⟩ (.int .i64 q.l)).setCell ⟨S, 11, none⟩ (.int .i64 q.p)).setCell ⟨S, 12, none⟩ (.int .i64 q.m)).alloc (.cells #[.int .i64 r.m, .int .i64 r.n, .int .i64 r.p, .slice s1 s2 s3, .slice t1 t2 t3] 56)).alloc (.cells #[.int .i64 q.s, .int .i64 q.o, .int .i64 q.l, .int .i64 q.p, .int .i64 q.m] 32)) ((w3.heap.size + 1, [.int .i64 q.s, .int .i64 q.o, .int .i64 q.l, .int .i64 q.p, .int .i64 q.m]) :: (w3.heap.size, [.int .i64 r.m, .int .i64 r.n, .int .i64 r.p, .slice s1 s2 s3, .slice t1 t2 t3]) :: (S, SB pd.D gb p own q 0) :: (b3, [.int .i64 pj.s, .int .i64 pj.o, .int .i64 pj.l, .int .i64 pj.p, .int .i64 pj.m]) :: (L ++ c.L)) (G ++ c.G) ((fun W => RcAt W r (s1, s2, s3) (t1, t2, t3)) :: (fs ++ (F ++ c.F))) :=
          ((((((HW3.out.put 0 (p := S) rfl 8 (.int .i64 q.s)).put 0 (p := S) rfl 9 (.int .i64 q.o)).put 0 (p := S) rfl 10 (.int .i64 q.l)).put 0 (p := S) rfl 11 (.int .i64 q.p)).put 0 (p := S) rfl 12 (.int .i64 q.m)).newB #[.int .i64 r.m, .int .i64 r.n, .int .i64 r.p, .slice s1 s2 s3, .slice t1 t2 t3] 56 (b := w3.heap.size) (by simp [World.setCell])).newB #[.int .i64 q.s, .int .i64 q.o, .int .i64 q.l, .int .i64 q.p, .int .i64 q.m] 32 (by simp [World.setCell])
        have HW4 := Lib.hid hw4
        clear hw4 HW3 bS bB c1 lB lS s8 s9 s10 s11 s12 z8 z9 z10 z11 z12
        generalize hg4 : (((((((w3.setCell ⟨S, 8, none⟩ (.int .i64 q.s)).setCell ⟨S, 9, none⟩ (.int .i64 q.o)).setCell ⟨S, 10, none⟩ (.int .i64 q.l)).setCell ⟨S, 11, none⟩ (.int .i64 q.p)).setCell ⟨S, 12, none⟩ (.int .i64 q.m)).alloc (.cells #[.int .i64 r.m, .int .i64 r.n, .int .i64 r.p, .slice s1 s2 s3, .slice t1 t2 t3] 56)).alloc (.cells #[.int .i64 q.s, .int .i64 q.o, .int .i64 q.l, .int .i64 q.p, .int .i64 q.m] 32)) = w4 at *
        generalize w3.heap.size = b5 at *
        clear hg4 w3
        refine ⟨trivial, callsIn_wide.2 ((rec_next_any r (s1, s2, s3) (t1, t2, t3) _ (HW4.out.fact _ List.mem_cons_self).1).mono ?_)⟩
        rintro en w5 ⟨rfl, hO5⟩
        have HW5 := Lib.hid (HW4.out.keep0 hO5)
        clear hO5 HW4
        obtain ⟨hp1, hp2, hp3, rfl⟩ := follow_place HFO.out
        have HP1 := Lib.hid hp1
        clear hp1
        have hcl := HC.out.2.2
        obtain ⟨k, rfl⟩ : ∃ k', k = k' + 1 := ⟨k - 1, by omega⟩
        have hsc2 := HS.out
        rw [scanG_some HFO.out] at hsc2
        obtain ⟨x, hx⟩ : ∃ x : Fnd, x = ⟨pj, r, (s1, s2, s3), (t1, t2, t3)⟩ := ⟨_, rfl⟩
        have hxp : x.pr = (pj, r) := by rw [hx]; rfl
        have hxf : x.fct = (fun W => RcAt W r (s1, s2, s3) (t1, t2, t3)) := by rw [hx]; rfl
        have hfs2 : ∀ y ∈ pre ++ [x], y.fct ∈ (fun W => RcAt W r (s1, s2, s3) (t1, t2, t3)) :: fs := by
          intro y hy
          rcases List.mem_append.1 hy with hy | hy
          · exact List.mem_cons_of_mem _ (HFS.out y hy)
          · rw [List.mem_singleton] at hy
            subst hy
            rw [hxf]
            exact List.mem_cons_self
        have hpre : (pre ++ [x]).map Fnd.pr <+: (scanR d cf own p).1 := by
          rw [hsc2, List.map_append, List.map_cons, hxp]
          refine (List.prefix_append_right_inj _).2 ?_
          split
          · exact List.prefix_refl _
          · exact ⟨_, rfl⟩
        have hlen : pre.length < 65 := by
          have h1 := hpre.length_le
          have h2 := scanR_len d cf own p
          simp at h1
          omega
        have hat : At3 w0 w5 ⟨(S, SB pd.D gb p own q 0) :: (b3, [.int .i64 pj.s, .int .i64 pj.o, .int .i64 pj.l, .int .i64 pj.p, .int .i64 pj.m]) :: L, G, ((fun W => RcAt W r (s1, s2, s3) (t1, t2, t3)) :: fs) ++ F⟩ c := by
          exact at3_mk (fs := _ :: fs) (HW5.out.ldrop.ldrop).toWc
        have hj5 : J none pre c w5 := hJc _ _ _ _ _ hJp (HW5.out.kb.mono hsz)
        have hs5 : W.heap.size ≤ w5.heap.size := Nat.le_trans hsz HW5.out.hs
        obtain ⟨fn, tmps, assign, body, hy, hR⟩ := hY pre x _ c w5 ⟨b3, q, _, by rw [hx], hfs2, hpre, by rw [hx]; exact HFO.out⟩ hj5 hat hs5 hlen
        rw [hx] at hy
        simp only [Fnd.enc, Rc.cells, slv] at hy
        have HS2 := Lib.hid hsc2
        have HF2 := Lib.hid hfs2
        have HP2 := Lib.hid hpre
        have HXP := Lib.hid hxp
        have HXF : Hid (Kn.follow d cf x.p = (some (x.r, q), 0)) := Lib.hid (by rw [hx]; exact HFO.out)
        have b5o := HW5.out.boxi 1 rfl
        have r0 := b5o.cell 0 (by simp)
        have r1 := b5o.cell 1 (by simp)
        have r2 := b5o.cell 2 (by simp)
        have r3 := b5o.cell 3 (by simp)
        have r4 := b5o.cell 4 (by simp)
        simp only [List.getElem_cons_zero, List.getElem_cons_succ] at r0 r1 r2 r3 r4
        have b3o := HW5.out.boxi 3 rfl
        have p0 := b3o.cell 0 (by simp)
        have p1 := b3o.cell 1 (by simp)
        have p2 := b3o.cell 2 (by simp)
        have p3 := b3o.cell 3 (by simp)
        have p4 := b3o.cell 4 (by simp)
        simp only [List.getElem_cons_zero, List.getElem_cons_succ] at p0 p1 p2 p3 p4
        clear hsc2 hfs2 hpre hxp hxf hx hlen hat hj5 b5o b3o HFS HS
        cases hla : (nextOf r).isSome with
        | true =>
          gi_wp2_with fail
          refine hR.mono ?_
          rintro e2 W' ⟨c', hA', hkf, ⟨rfl, hj'⟩ | ⟨rfl, cd, hj'⟩⟩
          · have hW' := Wk.start (at3_get (fs := (fun W => RcAt W r (s1, s2, s3) (t1, t2, t3)) :: fs) hA')
            have HW' := Lib.hid hW'
            have hs' : W.heap.size ≤ W'.heap.size := Nat.le_trans hs5 hkf.size
            have bS := HW'.out.boxi 0 (p := S) rfl
            have s8 := bS.cell 8 (by simp [SB])
            have s9 := bS.cell 9 (by simp [SB])
            have s10 := bS.cell 10 (by simp [SB])
            have s11 := bS.cell 11 (by simp [SB])
            have s12 := bS.cell 12 (by simp [SB])
            simp only [SB, List.getElem_cons_zero, List.getElem_cons_succ] at s8 s9 s10 s11 s12
            have bB := HW'.out.own _ (List.mem_cons_of_mem _ (List.mem_cons_of_mem _ (List.mem_append_left _ HB1.out)))
            have c1 := bB.cell 0 (by simp)
            simp only [List.getElem_cons_zero] at c1
            have b3o := HW'.out.boxi 1 rfl
            have p0 := b3o.cell 0 (by simp)
            have p1 := b3o.cell 1 (by simp)
            have p2 := b3o.cell 2 (by simp)
            have p3 := b3o.cell 3 (by simp)
            have p4 := b3o.cell 4 (by simp)
            simp only [List.getElem_cons_zero, List.getElem_cons_succ] at p0 p1 p2 p3 p4
            have z0 := b3o.frozen 0
            have z1 := b3o.frozen 1
            have z2 := b3o.frozen 2
            have z3 := b3o.frozen 3
            have z4 := b3o.frozen 4
            have l3 := b3o.lt
            have hof := offAt_eq p1
            have HOF := Lib.hid hof
            clear hA' hW' bS bB hof
            gi_wp2_with fail
            go_roundw
            case rel =>
              refine ⟨pre ++ [x], c', (fun W => RcAt W r (s1, s2, s3) (t1, t2, t3)) :: fs, q, false, 0, k, rfl, ((((((HW'.out.put 1 (p := b3) rfl 0 (.int .i64 q.s)).put 1 (p := b3) rfl 1 (.int .i64 q.o)).put 1 (p := b3) rfl 2 (.int .i64 q.l)).put 1 (p := b3) rfl 3 (.int .i64 q.p)).put 1 (p := b3) rfl 4 (.int .i64 q.m))).toWc, HF2.out, hJc _ _ _ _ _ hj' ?_, ?_, ?_⟩
              · exact (((((((HW'.out.put 1 (p := b3) rfl 0 (.int .i64 q.s)).put 1 (p := b3) rfl 1 (.int .i64 q.o)).put 1 (p := b3) rfl 2 (.int .i64 q.l)).put 1 (p := b3) rfl 3 (.int .i64 q.p)).put 1 (p := b3) rfl 4 (.int .i64 q.m))).kb).mono hs'
              · simpa [World.setCell] using hs'
              · have h := HS2.out
                rw [hla] at h
                refine .inr ⟨rfl, h.trans ?_⟩
                rw [List.map_append, List.map_cons, HXP.out]
                simp
            case measure =>
              have h1 : offAt ((((((W'.setCell ⟨b3, 0, none⟩ (.int .i64 q.s)).setCell ⟨b3, 1, none⟩ (.int .i64 q.o)).setCell ⟨b3, 2, none⟩ (.int .i64 q.l)).setCell ⟨b3, 3, none⟩ (.int .i64 q.p)).setCell ⟨b3, 4, none⟩ (.int .i64 q.m))) b3 = q.o.toNat := offAt_eq (k := .i64) (by simpa using ((((((((HW'.out.put 1 (p := b3) rfl 0 (.int .i64 q.s)).put 1 (p := b3) rfl 1 (.int .i64 q.o)).put 1 (p := b3) rfl 2 (.int .i64 q.l)).put 1 (p := b3) rfl 3 (.int .i64 q.p)).put 1 (p := b3) rfl 4 (.int .i64 q.m))).boxi 1 rfl).cell 1 (by simp)))
              rw [HOF2.out, h1]
              omega
          · gi_wp2_with fail
            refine bodyPost_ret (results_none rfl _ _ _) rfl ⟨⟨_, rfl⟩, Nat.le_trans hs5 hkf.size, ⟨(S, SB pd.D gb p own q 0) :: L, G, ((fun W => RcAt W r (s1, s2, s3) (t1, t2, t3)) :: fs) ++ F⟩, c', ?_, .inr ⟨pre ++ [x], cd, ⟨q, _, rfl, HF2.out, HP2.out, pre, x, rfl, HXF.out⟩, hj'⟩⟩
            exact at3_mk (fs := _ :: fs) ((at3_get (fs := (fun W => RcAt W r (s1, s2, s3) (t1, t2, t3)) :: fs) hA').sub (L' := (S, SB pd.D gb p own q 0) :: (L ++ c'.L)) (.cons_cons _ (.cons _ (List.Sublist.refl _))) (fun f hf => hf))
        | false =>
          gi_wp2_with fail
          refine hR.mono ?_
          rintro e2 W' ⟨c', hA', hkf, ⟨rfl, hj'⟩ | ⟨rfl, cd, hj'⟩⟩
          · have hW' := Wk.start (at3_get (fs := (fun W => RcAt W r (s1, s2, s3) (t1, t2, t3)) :: fs) hA')
            have HW' := Lib.hid hW'
            have hs' : W.heap.size ≤ W'.heap.size := Nat.le_trans hs5 hkf.size
            have bS := HW'.out.boxi 0 (p := S) rfl
            have s8 := bS.cell 8 (by simp [SB])
            have s9 := bS.cell 9 (by simp [SB])
            have s10 := bS.cell 10 (by simp [SB])
            have s11 := bS.cell 11 (by simp [SB])
            have s12 := bS.cell 12 (by simp [SB])
            simp only [SB, List.getElem_cons_zero, List.getElem_cons_succ] at s8 s9 s10 s11 s12
            have bB := HW'.out.own _ (List.mem_cons_of_mem _ (List.mem_cons_of_mem _ (List.mem_append_left _ HB1.out)))
            have c1 := bB.cell 0 (by simp)
            simp only [List.getElem_cons_zero] at c1
            have b3o := HW'.out.boxi 1 rfl
            have p0 := b3o.cell 0 (by simp)
            have p1 := b3o.cell 1 (by simp)
            have p2 := b3o.cell 2 (by simp)
            have p3 := b3o.cell 3 (by simp)
            have p4 := b3o.cell 4 (by simp)
            simp only [List.getElem_cons_zero, List.getElem_cons_succ] at p0 p1 p2 p3 p4
            have z0 := b3o.frozen 0
            have z1 := b3o.frozen 1
            have z2 := b3o.frozen 2
            have z3 := b3o.frozen 3
            have z4 := b3o.frozen 4
            have l3 := b3o.lt
            have hof := offAt_eq p1
            have HOF := Lib.hid hof
            clear hA' hW' bS bB hof
            gi_wp2_with fail
            go_roundw
            case rel =>
              refine ⟨pre ++ [x], c', (fun W => RcAt W r (s1, s2, s3) (t1, t2, t3)) :: fs, q, true, 0, k, rfl, ((((((HW'.out.put 1 (p := b3) rfl 0 (.int .i64 q.s)).put 1 (p := b3) rfl 1 (.int .i64 q.o)).put 1 (p := b3) rfl 2 (.int .i64 q.l)).put 1 (p := b3) rfl 3 (.int .i64 q.p)).put 1 (p := b3) rfl 4 (.int .i64 q.m))).toWc, HF2.out, hJc _ _ _ _ _ hj' ?_, ?_, ?_⟩
              · exact (((((((HW'.out.put 1 (p := b3) rfl 0 (.int .i64 q.s)).put 1 (p := b3) rfl 1 (.int .i64 q.o)).put 1 (p := b3) rfl 2 (.int .i64 q.l)).put 1 (p := b3) rfl 3 (.int .i64 q.p)).put 1 (p := b3) rfl 4 (.int .i64 q.m))).kb).mono hs'
              · simpa [World.setCell] using hs'
              · have h := HS2.out
                rw [hla] at h
                refine .inl ⟨rfl, rfl, h.trans ?_, by omega, by omega, by omega, by rw [HP1.out]; exact hs0, by rw [HP1.out]; exact hs1⟩
                rw [List.map_append, List.map_cons, HXP.out]
                simp
            case measure =>
              have h1 : offAt ((((((W'.setCell ⟨b3, 0, none⟩ (.int .i64 q.s)).setCell ⟨b3, 1, none⟩ (.int .i64 q.o)).setCell ⟨b3, 2, none⟩ (.int .i64 q.l)).setCell ⟨b3, 3, none⟩ (.int .i64 q.p)).setCell ⟨b3, 4, none⟩ (.int .i64 q.m))) b3 = q.o.toNat := offAt_eq (k := .i64) (by simpa using ((((((((HW'.out.put 1 (p := b3) rfl 0 (.int .i64 q.s)).put 1 (p := b3) rfl 1 (.int .i64 q.o)).put 1 (p := b3) rfl 2 (.int .i64 q.l)).put 1 (p := b3) rfl 3 (.int .i64 q.p)).put 1 (p := b3) rfl 4 (.int .i64 q.m))).boxi 1 rfl).cell 1 (by simp)))
              rw [HOF2.out, h1]
              omega
          · gi_wp2_with fail
            refine bodyPost_ret (results_none rfl _ _ _) rfl ⟨⟨_, rfl⟩, Nat.le_trans hs5 hkf.size, ⟨(S, SB pd.D gb p own q 0) :: L, G, ((fun W => RcAt W r (s1, s2, s3) (t1, t2, t3)) :: fs) ++ F⟩, c', ?_, .inr ⟨pre ++ [x], cd, ⟨q, _, rfl, HF2.out, HP2.out, pre, x, rfl, HXF.out⟩, hj'⟩⟩
            exact at3_mk (fs := _ :: fs) ((at3_get (fs := (fun W => RcAt W r (s1, s2, s3) (t1, t2, t3)) :: fs) hA').sub (L' := (S, SB pd.D gb p own q 0) :: (L ++ c'.L)) (.cons_cons _ (.cons _ (List.Sublist.refl _))) (fun f hf => hf))
    · have HE := Lib.hid hsc
      have HW := Lib.hid hw
      clear hsc hw
      gi_wp2_with fail
      go_end0
      refine ⟨⟨_, rfl⟩, hsz, ⟨(S, SB pd.D gb p own pj er) :: L, G, fs ++ F⟩, c, ?_, .inl ⟨pre, ⟨fs, by rw [HE.out], hfs, by rw [HE.out]⟩, hJp⟩⟩
      exact at3_mk <| HW.out.sub (L' := (S, SB pd.D gb p own pj er) :: (L ++ c.L)) (F' := fs ++ (F ++ c.F)) (.cons_cons _ (.cons _ (List.Sublist.refl _))) (fun f hf => hf)
end Go.Proofs.YtgcfdjcpcclcjaaGreat
namespace Go.Kn
open Go Go.RowKit
theorem round_wide {m : Nat} {P : Program} {l : Nat} {f : FuncId} {tmps : Array Value} {assign body : Code} {w : World} {R : Ending → World → Prop} (lr m' : Nat) (h : RoundIn Fence.wide m P l f tmps assign body w R) : RoundIn (Fence.wide.inRound lr) m' P l f tmps assign body w R :=
  ⟨h.1, fun c cs _ => h.2 c cs (room_wide _)⟩
theorem perm_mid2 {α : Type} (a b : α) (X C : List α) : (a :: b :: (X ++ C)).Perm (X ++ a :: b :: C) :=
  ((List.perm_middle (l₁ := X) (a := a) (l₂ := b :: C)).trans ((List.perm_middle (l₁ := X) (a := b) (l₂ := C)).cons _)).symm
theorem At3.new2 {w0 w : World} {φ c : Fr3} (h : At3 w0 w φ c) (u v : Array Value) (s t : TypeId) : At3 w0 ((w.alloc (.cells u s)).alloc (.cells v t)) φ ⟨(w.heap.size + 1, v.toList) :: (w.heap.size, u.toList) :: c.L, c.G, c.F⟩ :=
  ((Wc.newB (Wc.newB h u s rfl) v t (by simp)).perm (perm_mid2 _ _ _ _) (List.Perm.refl _) : Wc _ _ _ _ _)
theorem At3.subc {w0 w : World} {φ c : Fr3} {L : List (Nat × List Value)} (h : At3 w0 w φ c) (hL : L.Sublist c.L) : At3 w0 w φ ⟨L, c.G, c.F⟩ := Wc.sub h ((List.Sublist.refl _).append hL) (fun f hf => hf)
theorem At3.shift {w0 w : World} {φ : Fr3} {x : Nat × List Value} {L : List (Nat × List Value)} {G : List Gs} {F : List (World → Prop)} (h : At3 w0 w φ ⟨x :: L, G, F⟩) : At3 w0 w ⟨φ.L ++ [x], φ.G, φ.F⟩ ⟨L, G, F⟩ := by
  have h2 : Wc w0 w (φ.L ++ x :: L) (φ.G ++ G) (φ.F ++ F) := h
  rw [List.append_cons] at h2
  exact h2
theorem At3.unshift {w0 w : World} {φ : Fr3} {x : Nat × List Value} {c : Fr3} (h : At3 w0 w ⟨φ.L ++ [x], φ.G, φ.F⟩ c) : At3 w0 w φ ⟨x :: c.L, c.G, c.F⟩ := by
  have h2 : Wc w0 w ((φ.L ++ [x]) ++ c.L) (φ.G ++ c.G) (φ.F ++ c.F) := h
  rw [← List.append_cons] at h2
  exact h2
end Go.Kn
namespace Go.Proofs.YtgcfdjcpcclcjaaGreat
open Go Go.RowKit Go.Kn Go.Shelf
attribute [local go_sem] Oper.semAt_some
theorem places_any (p : Option Addr) (w : World) : Calls Tryz.prog 98 #[.pointer p] w fun e w' => e = .returned (.func (.func 151) #[] #[.pointer (some ⟨w.heap.size, 0, none⟩)]) ∧ w' = w.alloc (.cells #[.pointer p] 40) := by
  go_enter Tryz.func98, Tryz.ntmps98
  go_wp2
  go_ret
  exact ⟨rfl, rfl⟩
theorem records_any (p : Option Addr) (w : World) : Calls Tryz.prog 29 #[.pointer p] w fun e w' => e = .returned (.func (.func 97) #[] #[.pointer (some ⟨w.heap.size, 0, none⟩)]) ∧ w' = w.alloc (.cells #[.pointer p] 40) := by
  go_enter Tryz.func29, Tryz.ntmps29
  go_wp2
  go_ret
  exact ⟨rfl, rfl⟩
def Fnd.enc2 (x : Fnd) : Array Value := #[.int .i64 x.p.o, .agg (x.r.cells x.s x.t)]
def RePre (d : Dk) (cf : Cf) (own : Bool) (p : Ps) (pre : List Fnd) (x : Fnd) (φ : Fr3) : Prop := (∀ y ∈ pre ++ [x], y.fct ∈ φ.F) ∧ (pre ++ [x]).map Fnd.pr <+: (scanR d cf own p).1
def ReB (bx l : Nat) : Nat × List Value := (bx, [.func (.yield l) #[] #[]])
def ReJ (J : Option Code → List Fnd → Fr3 → World → Prop) (bx l : Nat) : Option Code → List Fnd → Fr3 → World → Prop
  | none, pre, c, W => ∃ co : Fr3, c = ⟨ReB bx l :: co.L, co.G, co.F⟩ ∧ J none pre co W
  | some cd, pre, c, W => ∃ (co : Fr3) (cd' : Code), c = ⟨ReB bx l :: co.L, co.G, co.F⟩ ∧ cd = .ret ∧ J (some cd') pre co W
def ReM (J : Option Code → List Fnd → Fr3 → World → Prop) (S b1 bx l : Nat) (pre : List Fnd) (x : Fnd) (a : Act) (c : Fr3) (W : World) : Prop :=
  ∃ (co : Fr3) (bP bR : Nat), c = ⟨(bR, (x.r.cells x.s x.t).toList) :: (bP, [.int .i64 x.p.s, .int .i64 x.p.o, .int .i64 x.p.l, .int .i64 x.p.p, .int .i64 x.p.m]) :: ReB bx l :: co.L, co.G, co.F⟩ ∧
    a = { tmps := #[.func (.yield l) #[] #[], .pointer (some ⟨b1, 0, none⟩), .pointer (some ⟨bx, 0, none⟩), .pointer (some ⟨bP, 0, none⟩), .pointer (some ⟨bR, 0, none⟩), .pointer (some ⟨S, 0, none⟩), .func (.func 151) #[] #[.pointer (some ⟨bx + 1, 0, none⟩)], .agg #[.int .i64 x.p.s, .int .i64 x.p.o, .int .i64 x.p.l, .int .i64 x.p.p, .int .i64 x.p.m], .agg (x.r.cells x.s x.t), undef, undef, undef, undef, undef, undef], defers := [] } ∧ J none pre co W
theorem perm_re {α : Type} (a b c : α) (L C : List α) : (a :: b :: c :: (L ++ C)).Perm (c :: a :: (L ++ b :: C)) :=
  (List.perm_middle (l₁ := [a, b]) (a := c) (l₂ := L ++ C)).trans ((List.Perm.cons _ (List.perm_middle (l₁ := L) (a := b) (l₂ := C)).symm).cons _)
set_option maxRecDepth 100000 in
set_option maxHeartbeats 8000000 in
theorem records1_seq (w0 W : World) (S b1 gb : Nat) (pd : PD) (d : Dk) (cf : Cf) (p : Ps) (own : Bool) (e : Ps) (er : Int) (L : List (Nat × List Value)) (G : List Gs) (F : List (World → Prop)) (n : Nat) (hn : 4 ≤ n)
    (hd : DkIn pd d L) (hb1 : (b1, [.pointer (some ⟨S, 0, none⟩)]) ∈ L) (hg : (fun W => GeoAt W gb cf.b cf.s cf.l) ∈ F) (hc : cf.Ok) :
    SeqW Fence.wide n Tryz.prog 97 #[.pointer (some ⟨b1, 0, none⟩)] Fnd.enc2 (RePre d cf own p) (PlFin S pd.D gb d cf p own L G F) (PlFix S pd.D gb d cf p own L G F) 65 w0 W ⟨(S, SB pd.D gb p own e er) :: L, G, F⟩ := by
  intro l J c0 hJc hY hJ0 hA
  have h1 : 1 ≤ n := by omega
  have hA' : Wc w0 W ((S, SB pd.D gb p own e er) :: (L ++ c0.L)) (G ++ c0.G) (F ++ c0.F) := hA
  have c1 : W.cell? ⟨b1, 0, none⟩ = some (.pointer (some ⟨S, 0, none⟩)) := (hA'.own _ (List.mem_cons_of_mem _ (List.mem_append_left _ hb1))).cell 0 (by simp)
  have lb := (hA'.own _ (List.mem_cons_of_mem _ (List.mem_append_left _ hb1))).lt
  have HA := Lib.hid hA'
  have HB1 := Lib.hid hb1
  have HDK := Lib.hid hd
  have HG := Lib.hid hg
  clear hA hA' hd hg hb1
  refine callsIn_of_wp_marks Tryz.func97 rfl trivial ?_ rfl
  simp only [Tryz.ntmps97, List.size_toArray, List.length_cons, List.length_nil, Nat.reduceAdd, Nat.reduceSub, Array.replicate_succ, Array.replicate_zero, List.push_toArray, List.append_toArray, List.nil_append, List.cons_append]
  gi_wp2_with fail
  refine ⟨trivial, callsIn_wide.2 ((places_any _ _).mono ?_)⟩
  rintro en w1 ⟨rfl, rfl⟩
  have hsb : (W.alloc (.cells #[.func (.yield l) #[] #[]] 170)).heap.size = W.heap.size + 1 := by simp
  have hw2 := (HA.out.newB #[.func (.yield l) #[] #[]] 170 (b := W.heap.size) rfl).newB #[.pointer (some ⟨S, 0, none⟩)] 40 (b := W.heap.size + 1) hsb
  rw [hsb]
  have hsz2 : ((W.alloc (.cells #[.func (.yield l) #[] #[]] 170)).alloc (.cells #[.pointer (some ⟨S, 0, none⟩)] 40)).heap.size = W.heap.size + 1 + 1 := by simp
  have hJ2 : J none [] c0 ((W.alloc (.cells #[.func (.yield l) #[] #[]] 170)).alloc (.cells #[.pointer (some ⟨S, 0, none⟩)] 40)) := hJc _ _ _ _ _ hJ0 (Kb.of_only (S := []) (((Only.refl _ _).alloc _).alloc _) (by simp))
  have HW2 := Lib.hid hw2
  have HSZ := Lib.hid hsz2
  clear hw2 hsb hsz2 c1 lb HA
  generalize hg2 : (W.alloc (.cells #[.func (.yield l) #[] #[]] 170)).alloc (.cells #[.pointer (some ⟨S, 0, none⟩)] 40) = w2 at *
  obtain ⟨bx, hbx⟩ : ∃ k, k = W.heap.size := ⟨_, rfl⟩
  have hwx : W.heap.size ≤ bx := by omega
  have hwx2 : W.heap.size ≤ w2.heap.size := by rw [HSZ.out]; omega
  rw [← hbx] at HW2 HSZ ⊢
  clear hg2 hbx
  gi_wp2_with fail
  refine wpIn_rangeFunc_W rfl h1 (gf := 151) (lb := #[.pointer (some ⟨bx + 1, 0, none⟩)]) rfl trivial (enters_of Tryz.func151 (by kernel_rfl) rfl)
    (c0 := ⟨ReB bx l :: c0.L, c0.G, c0.F⟩) (fun W1 _ => places1_seq w0 W1 S (bx + 1) gb pd d cf p own e er ((bx + 1, [.pointer (some ⟨S, 0, none⟩)]) :: L) G F (n - 1) (by omega) (HDK.out.mono (fun x hx => List.mem_cons_of_mem _ hx)) List.mem_cons_self HG.out hc) (fun _ => rfl)
    (ReJ J bx l) (ReM J S b1 bx l) ?hJ ?hJm ⟨c0, rfl, hJ2⟩ (HW2.out.perm (perm_re _ _ _ _ _) (List.Perm.refl _)) ?assign ?body ?done ?stop
  case hJ =>
    rintro (_ | cd) xs c X Y h hb
    · obtain ⟨co, hc, hj⟩ := h
      exact ⟨co, hc, hJc _ _ _ _ _ hj (hb.mono hwx2)⟩
    · obtain ⟨co, cd', hc, hcd, hj⟩ := h
      exact ⟨co, cd', hc, hcd, hJc _ _ _ _ _ hj (hb.mono hwx2)⟩
  case hJm =>
    rintro pre x a c X Y ⟨co, bP, bR, hc, ha, hj⟩ hb
    exact ⟨co, bP, bR, hc, ha, hJc _ _ _ _ _ hj (hb.mono hwx2)⟩
  case assign =>
    rintro lr pre x φ c W1 K hpre ⟨co, rfl, hj⟩ hat hsz hlen hK
    obtain ⟨xp, r, ⟨s1, s2, s3⟩, ⟨t1, t2, t3⟩⟩ := x
    simp only [Fnd.enc, Rc.cells, slv]
    have HAT := Lib.hid hat
    have HPRE := Lib.hid hpre
    clear hat hpre
    gi_wp2
    refine hK _ ⟨(W1.heap.size + 1, (r.cells (s1, s2, s3) (t1, t2, t3)).toList) :: (W1.heap.size, [.int .i64 xp.s, .int .i64 xp.o, .int .i64 xp.l, .int .i64 xp.p, .int .i64 xp.m]) :: ReB bx l :: co.L, co.G, co.F⟩ _ (kf_of_only (S := []) (((Only.refl _ _).alloc _).alloc _) (by simp)) (HAT.out.new2 _ _ _ _) ⟨co, _, _, rfl, rfl, hJc _ _ _ _ _ hj (Kb.of_only (S := []) (((Only.refl _ _).alloc _).alloc _) (by simp))⟩
  case body =>
    rintro lr pre x φ c a' W1 ⟨b3, q, fs, rfl, hfs, hpx, hfo⟩ ⟨co, bP, bR, rfl, rfl, hj⟩ hat hsz hlen
    obtain ⟨y, hy0⟩ : ∃ y, y = x := ⟨_, rfl⟩
    obtain ⟨xp, r, ⟨s1, s2, s3⟩, ⟨t1, t2, t3⟩⟩ := x
    simp only [Rc.cells, slv]
    have hw1 : Wc w0 W1 (_ ++ ((bR, (r.cells (s1, s2, s3) (t1, t2, t3)).toList) :: (bP, [.int .i64 xp.s, .int .i64 xp.o, .int .i64 xp.l, .int .i64 xp.p, .int .i64 xp.m]) :: ReB bx l :: co.L)) _ _ := hat
    have oR := hw1.own (bR, (r.cells (s1, s2, s3) (t1, t2, t3)).toList) (by simp)
    have oP := hw1.own (bP, [.int .i64 xp.s, .int .i64 xp.o, .int .i64 xp.l, .int .i64 xp.p, .int .i64 xp.m]) (by simp)
    have oX := hw1.own (ReB bx l) (by simp)
    have cX := oX.cell 0 (by simp [ReB])
    have cP := oP.cell 1 (by simp)
    simp only [Rc.cells, slv] at oR
    have r0 := oR.cell 0 (by simp)
    have r1 := oR.cell 1 (by simp)
    have r2 := oR.cell 2 (by simp)
    have r3 := oR.cell 3 (by simp)
    have r4 := oR.cell 4 (by simp)
    simp only [List.getElem_cons_zero, List.getElem_cons_succ] at r0 r1 r2 r3 r4
    simp only [ReB, List.getElem_cons_zero, List.getElem_cons_succ] at cX cP
    have hat2 := (hat.subc (L := ReB bx l :: co.L) (.cons _ (.cons _ (List.Sublist.refl _)))).shift
    obtain ⟨fn, tmps, assign, body, hy, hR⟩ := hY pre y _ co W1 ⟨by rw [hy0]; intro y hy; exact List.mem_append_left _ (hfs y hy), by rw [hy0]; exact hpx⟩ hj hat2 (Nat.le_trans hwx2 hsz) hlen
    rw [hy0] at hy
    simp only [Fnd.enc2, Rc.cells, slv] at hy
    clear hw1 oR oP oX
    refine wpIn_block ?_
    gi_wp2_with fail
    refine ⟨fun _ => by omega, (round_wide lr (n - 1 - 1 - 1) hR).mono ?_⟩
    have hkm : ∀ W', KeepsFrom W.heap.size W1 W' → KeepsFrom w2.heap.size W1 W' := fun W' h => ⟨h.size, fun k o hk => h.same k o (by omega)⟩
    rintro e2 W' ⟨c', hA', hkf, ⟨rfl, hj'⟩ | ⟨rfl, cd, hj'⟩⟩
    · gi_wp2
      rw [← hy0]
      exact ⟨hkm _ hkf, _, hA'.unshift, c', rfl, hj'⟩
    · gi_wp2
      rw [← hy0]
      exact ⟨hkm _ hkf, _, hA'.unshift, c', cd, rfl, rfl, hj'⟩
  case done =>
    rintro D xs φ c W1 hD ⟨fs, rfl, hfs, hxs⟩ ⟨co, rfl, hj⟩ hat hK hsz
    gi_wp2
    have hw := (at3_get (fs := fs) hat).putObj (.deferred none) hK rfl (Nat.le_trans HW2.out.only.size hD)
    have hkb : Kb W.heap.size W1 (W1.putObj D (.deferred none)) := kb_putObj _ _ (Nat.le_trans hwx2 hD)
    refine ⟨by simp, .inl ⟨D, _, rfl, run_takeDeferred hK, _, results_none rfl _ _ _, ⟨_, rfl⟩, by simp; omega, ⟨(S, SB pd.D gb p own (scanR d cf own p).2.1 (scanR d cf own p).2.2) :: L, G, fs ++ F⟩, co, at3_mk (hw.sub (L' := _ :: (L ++ co.L)) (.cons_cons _ (.cons _ ((List.Sublist.refl _).append (.cons _ (List.Sublist.refl _))))) (fun f hf => hf)), .inl ⟨xs, ⟨fs, rfl, hfs, hxs⟩, hJc _ _ _ _ _ hj hkb⟩⟩⟩
  case stop =>
    rintro D cd pre φ c W1 hD ⟨q, fs, rfl, hfs, hp, hex⟩ ⟨co, cd', rfl, rfl, hj⟩ hat hK hsz
    gi_wp2
    have hw := (at3_get (fs := fs) hat).putObj (.deferred none) hK rfl (Nat.le_trans HW2.out.only.size hD)
    have hkb : Kb W.heap.size W1 (W1.putObj D (.deferred none)) := kb_putObj _ _ (Nat.le_trans hwx2 hD)
    refine ⟨by simp, .inl ⟨D, _, rfl, run_takeDeferred hK, _, results_none rfl _ _ _, ⟨_, rfl⟩, by simp; omega, ⟨(S, SB pd.D gb p own q 0) :: L, G, fs ++ F⟩, co, at3_mk (hw.sub (L' := _ :: (L ++ co.L)) (.cons_cons _ (.cons _ ((List.Sublist.refl _).append (.cons _ (List.Sublist.refl _))))) (fun f hf => hf)), .inr ⟨pre, cd', ⟨q, fs, rfl, hfs, hp, hex⟩, hJc _ _ _ _ _ hj hkb⟩⟩⟩
end Go.Proofs.YtgcfdjcpcclcjaaGreat
