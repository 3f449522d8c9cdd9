/- Chapter 29: Path. -/
import Derived.Test.YtmlcdoilbonelaaC29e
import Derived.Test.YtmlcdoilbonelaaColl
import Derived.Deep.LoopGhost
import Derived.Deep.AppendLies
namespace Go.Proofs.Ytmlcdoilbonelaa
open Go.RowKit Go

abbrev wayT : Ty := .pr (.int .i64) (.pr (.sl stT) .un)
theorem info_way : (Try.prog.info? 48).map (fun i => (i.zero, i.size, i.bytes)) = some (some (.agg #[.int .i64 0, .slice none 0 0]), 2, 32) := by kernel_rfl

def innerF (c : wayT.den) (st : List wayT.den × (Int → Bool)) (s : stT.den) : List wayT.den × (Int → Bool) :=
  if (nextF c.1 s.1 s.2.1).2 = 0 ∧ st.2 (nextF c.1 s.1 s.2.1).1 = false then
    (st.1 ++ [((nextF c.1 s.1 s.2.1).1, c.2.1 ++ [s], ())], fun x => if x = (nextF c.1 s.1 s.2.1).1 then true else st.2 x)
  else st
def bfs (to : Int) : Nat → List wayT.den → (Int → Bool) → Option (List stT.den)
  | 0, _, _ => none
  | _ + 1, [], _ => none
  | n + 1, c :: q, f => if c.1 = to then some c.2.1 else bfs to n (stepsL.foldl (innerF c) (q, f)).1 (stepsL.foldl (innerF c) (q, f)).2
def pathO (s t : Int) : Option (List stT.den) := bfs t 6 [(s, [], ())] (fun x => if x = s then true else false)
def pathL (s t : Int) : List stT.den := (pathO s t).getD []
def all5 : List Int := [1, 2, 3, 4, 5]
theorem path_all : (all5.all fun s => all5.all fun t => (pathO s t).isSome) = true := by kernel_rfl
theorem path_some (s t : Int) (h1 : 1 ≤ s) (h2 : s ≤ 5) (h3 : 1 ≤ t) (h4 : t ≤ 5) : pathO s t = some (pathL s t) := by
  have hm : ∀ x : Int, 1 ≤ x → x ≤ 5 → x ∈ all5 := fun x a b => by simp [all5]; omega
  have := List.all_eq_true.1 (List.all_eq_true.1 path_all s (hm s h1 h2)) t (hm t h3 h4)
  rw [pathL]
  cases h : pathO s t with
  | none => rw [h] at this; cases this
  | some l => rfl

theorem OwnsO.headW {te : TypeId} {base : Nat} {S : Nat → Prop} {w : World} {v : Value} {c : wayT.den} {q : List wayT.den} (h : OwnsO wayT te base S w v (c :: q)) :
    ∃ g off cap vs, v = .slice (some ⟨g, off, none⟩) (q.length + 1) cap ∧ q.length + 1 ≤ cap ∧ cap ≤ 9223372036854775807 ∧ w.cell? ⟨g, off, none⟩ = some (.int .i64 c.1) ∧ w.cell? ⟨g, off + 1, none⟩ = some vs ∧ (Lit.int .i64 c.1).wf = true ∧
      Rd (.sl stT) S w [vs] c.2.1 ∧ ∀ o, (cap = 1 ∧ o = off) ∨ o = off + 2 → OwnsO wayT te base S w (.slice (some ⟨g, o, none⟩) q.length (cap - 1)) q := by
  obtain ⟨g, off, len, cap, cur, ws, rfl, h1, h2, h3, h4, h5, h6, h7, h8, h9⟩ := h
  simp only [List.length_cons] at h1
  subst h1
  obtain ⟨cc, r, rfl, ⟨c1, c2, rfl, ⟨rfl, hw⟩, ⟨c3, c4, rfl, hv, hu⟩⟩, hr⟩ := h7
  cases hu
  obtain ⟨va, vl, vc, rfl, hv'⟩ := id hv
  have e0 := h8 0 (.int .i64 c.1) rfl
  have e1 := h8 1 (.slice va vl vc) rfl
  refine ⟨g, off, cap, _, rfl, h2, h3, by rw [cell_of_row w g _ cur te _ h5]; simpa using e0, by rw [cell_of_row w g _ cur te _ h5]; exact e1, hw, hv, ?_⟩
  intro o ho
  have hrl := hr.len
  have h6' : off + cap * 2 ≤ cur.size := h6
  have hq : q.length * 2 = r.length := hrl.symm
  rcases ho with ⟨rfl, rfl⟩ | rfl
  · have hq0 : q.length = 0 := by omega
    have hr0 : r = [] := List.eq_nil_of_length_eq_zero (by omega)
    subst hr0
    exact ⟨g, o, _, _, cur, [], rfl, rfl, by omega, by omega, h4, h5, by show o + (1 - 1) * 2 ≤ _; omega, hr, fun j u hu => by simp at hu, h9⟩
  · refine ⟨g, off + 2, _, _, cur, r, rfl, rfl, by omega, by omega, h4, h5, by show off + 2 + (cap - 1) * 2 ≤ _; omega, hr, fun j u hu => ?_, h9⟩
    have := h8 (j + 2) u (by simpa using hu)
    rw [show off + 2 + j = off + (j + 2) by omega]
    exact this

theorem steps_slice {base : Nat} {w : World} {v : Value} (h : Owns stT 33 base (fun _ => False) w v stepsL) :
    ∃ sb sc, v = .slice (some ⟨sb, 0, none⟩) 8 sc ∧ base ≤ sb ∧ sb < w.heap.size ∧ 8 ≤ sc ∧ sc ≤ 9223372036854775807 ∧ ∀ i, i < 8 → w.cell? ⟨sb, i * 2, none⟩ = some (.int .i64 (sdN stepsL i)) ∧ w.cell? ⟨sb, i * 2 + 1, none⟩ = some (.int .i64 (saN stepsL i)) := by
  rcases h.len with ⟨_, h0⟩ | ⟨sb, sc, rfl, h1, h2, h3, h4⟩
  · exact absurd h0 (by simp [stepsL])
  · refine ⟨sb, sc, rfl, h1, h2, h3, h4, fun i hi => ?_⟩
    obtain ⟨_, _, _, hc⟩ := Rd.steps (h.rd (fun _ => True) (fun _ _ => trivial) (fun _ _ => trivial))
    obtain ⟨b, off, hb, _, c1, c2, _⟩ := hc i hi
    cases hb
    rw [Nat.zero_add] at c1 c2
    exact ⟨c1, c2⟩
theorem fold_take' {α β : Type} (f : β → α → β) (b : β) (xs : List α) (k : Nat) (h : k < xs.length) : (xs.take (k + 1)).foldl f b = f ((xs.take k).foldl f b) xs[k] := by
  rw [List.take_add_one, List.getElem?_eq_getElem h, List.foldl_append]; rfl
theorem nextF_le (s d a : Int) : 0 ≤ (nextF s d a).1 ∧ (nextF s d a).1 ≤ 5 := by
  unfold nextF
  split
  · rename_i h
    have : ∀ n : Nat, 0 ≤ tblI.getD n 0 ∧ tblI.getD n 0 ≤ 5 := by
      have hall : ∀ x ∈ tblI, 0 ≤ x ∧ x ≤ 5 := by decide
      intro n
      rw [List.getD]
      cases hn : tblI[n]? with
      | none => simp
      | some y => exact hall y (List.mem_of_getElem? hn)
    split
    · simp
    · exact this _
  · simp

theorem steps_wf (k : Nat) (h : k < 8) : (Lit.int .i64 (sdN stepsL k)).wf = true ∧ (Lit.int .i64 (saN stepsL k)).wf = true := by
  match k with
  | 0 | 1 | 2 | 3 | 4 | 5 | 6 | 7 => exact ⟨rfl, rfl⟩
  | n + 8 => omega

set_option maxHeartbeats 2000000 in
theorem path_walk (w : World) (s t : Int) (h1 : 1 ≤ s) (h2 : s ≤ 5) (h3 : 1 ≤ t) (h4 : t ≤ 5) : Calls Try.prog 14 #[.int .i64 s, .int .i64 t] w fun e w' => ∃ v, e = .returned (.tuple #[v, .int .i64 0]) ∧ Below w.heap.size w w' ∧ Rd (.sl stT) (fun b => w.heap.size ≤ b ∧ b < w'.heap.size) w' [v] (pathL s t) := by
  have hk1 : (decide (1 ≤ s) && decide (s ≤ 5)) = true := by simpa using ⟨h1, h2⟩
  have hk2 : (decide (1 ≤ t) && decide (t ≤ 5)) = true := by simpa using ⟨h3, h4⟩
  have HP := Lib.hid (path_some s t h1 h2 h3 h4)
  have hz : ∀ w, (zeroValue 4).run Try.prog w = .ok (.bool false) w := fun w => by kernel_rfl
  have HZ := Lib.hid hz; clear hz
  have hmm : ∀ w, (Instr.makeMap 50 none).run Try.prog w = .ok (.map (some w.heap.size)) (w.alloc (.map #[] 0)) := fun w => run_makeMap _ w
  have O1 : OwnsO wayT 48 w.heap.size (fun _ => False) (w.alloc (.cells #[.int .i64 s, .slice none 0 0] 48)) (.slice (some ⟨w.heap.size, 0, none⟩) 1 1) [(s, [], ())] :=
    OwnsO.of (Owns.lit (e := wayT) (te := 48) (base := w.heap.size) (S := fun _ => False) w (vs := [.int .i64 s, .slice none 0 0]) (xs := [(s, [], ())])
      (RdL.one ⟨_, _, rfl, ⟨rfl, wf_i64 (by omega) (by omega)⟩, _, _, rfl, ⟨none, 0, 0, rfl, rfl, Nat.le_refl _, by omega, .inl rfl⟩, rfl⟩) (Nat.le_refl _) (fun _ h => h.elim) (by simp)) (by simp)
  have hBa : Below w.heap.size w (w.alloc (.cells #[.int .i64 s, .slice none 0 0] 48)) := (Below.refl _ w).alloc (Nat.le_refl _) _
  have M1 := MapB.made (P := Try.prog) (k := 3) (e := 4) (q := .i64) Try.underlying3 (w.alloc (.cells #[.int .i64 s, .slice none 0 0] 48))
  rw [World.size_alloc] at M1
  obtain ⟨w2, hup, M2, g2⟩ := M1.update (t := 50) Try.underlying3 Try.underlying4 Try.underlying50 (by simp [maxLen]) s (wf_i64 (by omega) (by omega)) true
  have hB2 : Below w.heap.size w w2 := (hBa.alloc hBa.size _).grown g2 (by simp; omega) (fun k e => by cases e; omega)
  have O2 : OwnsO wayT 48 w.heap.size (fun _ => False) w2 (.slice (some ⟨w.heap.size, 0, none⟩) 1 1) [(s, [], ())] :=
    (O1.below ((Below.refl _ _).alloc (Nat.le_refl _) _)).keep (fun b hb => g2.block b (by
      rcases hb with hb | hb
      · exact hb.elim
      · cases hb; simp; omega) (by
      rcases hb with hb | hb
      · exact hb.elim
      · cases hb; simp)) (fun _ h => h) (fun _ h => h.elim)
  clear O1 hBa M1 g2
  go_enter Try.func14, Try.ntmps14
  go_wp2_with (first | (go_at_call 24; refine (known_sum _ _).mono ?_; (first | rw [hk1] | rw [hk2]); rintro e w1 ⟨rfl, hw⟩; subst w1))
  go_loopg [6] 6 (fun k v wr => ∃ (Q : List wayT.den) (f : Int → Bool) (nm : Nat) (S : Nat → Prop), bfs t k Q f = some (pathL s t) ∧ OwnsO wayT 48 w.heap.size S wr v Q ∧ MapB Try.prog 3 4 .i64 wr (w.heap.size + 1) nm f ∧ v.ownBlock ≠ some (w.heap.size + 1) ∧
    (∀ b, S b → w.heap.size ≤ b ∧ b ≠ w.heap.size + 1) ∧ Q.length ≤ 8 * (7 - k) ∧ nm ≤ 8 * (7 - k) ∧ (∀ c ∈ Q, c.2.1.length ≤ 6 - k) ∧ k ≤ 6 ∧ Below w.heap.size w wr)
  case atStart => exact ⟨[(s, [], ())], _, _, _, HP.out, O2, M2, by simp [Value.ownBlock], fun _ h => h.elim, by simp, by omega, by simp, by omega, hB2⟩
  case round =>
    obtain ⟨w0, hw0⟩ : ∃ x, x = wr := ⟨wr, rfl⟩
    subst wr
    obtain ⟨Q, f, nm, S, hbfs, hO, hM, hne, hS, hQl, hnm, hQs, hk6, hB⟩ := hrel
    match gk, Q with
    | 0, _ => cases hbfs
    | gk + 1, [] => cases hbfs
    | gk + 1, c :: q =>
      obtain ⟨g, off, cap, vs, rfl, hlc, hcm, cs0, cs1, hwf, hvs, htl⟩ := hO.headW
      obtain ⟨va, vl, vc, hve, -⟩ := id hvs
      simp only [List.cons.injEq, and_true] at hve
      subst hve
      have HBF := Lib.hid hbfs; clear hbfs
      have HO := Lib.hid hO; clear hO
      have HM := Lib.hid hM; clear hM
      have HTL := Lib.hid htl; clear htl
      have HVS := Lib.hid hvs; clear hvs
      have HQS := Lib.hid hQs; clear hQs
      have HS := Lib.hid hS; clear hS
      have HZ0 := Lib.hid (And.intro hQl hnm); clear hQl hnm
      have hb1 : Below w0.heap.size w0 (w0.alloc (.cells #[.int .i64 c.1, .slice va vl vc] 48)) := (Below.refl _ w0).alloc (Nat.le_refl _) _
      by_cases hct : c.1 = t
      case pos =>
        have HCT := Lib.hid hct
        have hcq : (c.1 == t) = true := by simpa using hct
        clear hct
        go_wp2_with fail
        all_goals
          go_ret2
          refine ⟨_, rfl, below_step hB hb1, ?_⟩
          have hb := HBF.out
          simp only [bfs] at hb
          rw [if_pos HCT.out] at hb
          injection hb with hb
          rw [← hb]
          exact HVS.out.keep (fun b hb' => hb1.block b (HO.out.bound b hb').2) (fun b hb' => ⟨(HS.out b hb').1, Nat.lt_of_lt_of_le (HO.out.bound b hb').2 hb1.size⟩)
      have HCT := Lib.hid hct
      have hcq : (c.1 == t) = false := by simpa using hct
      clear hct
      go_wp2_with (first | (go_at_call 26; refine (steps_sum _).mono ?_; rintro e w3 ⟨sv, rfl, hB3, hOs⟩; obtain ⟨sb, sc, rfl, hsb1, hsb2, hsc1, hsc2, hsx⟩ := steps_slice hOs; clear hOs; have HSX := Lib.hid hsx; clear hsx))
      all_goals
        have hb3 := below_step hb1 hB3
        have hB30 := below_step hB hb3
        have O3 := (HTL.out _ (by first | exact .inl ⟨by assumption, rfl⟩ | exact .inr rfl)).below hb3
        try rw [show cap - 1 = 0 by omega] at O3
        have M3 := HM.out.below hb3
        have hsz := hb1.size
        have hgb := HO.out.own g rfl
        have hml := HM.out.lt
        have hsz2 : w0.heap.size + 1 ≤ w3.heap.size := by have := hB3.size; simp at this; omega
        have hsbr : w0.heap.size + 1 ≤ sb := by simp at hsb1; omega
        have hwr := hB.size
        have OT : OwnsO wayT 48 w.heap.size (fun b => S b ∨ b = w0.heap.size ∨ b = sb) w3 _ q := O3.keep (fun _ _ => rfl) (fun b hb => .inl hb) (fun b hb => by
          rcases hb with hb | rfl | rfl
          · exact O3.bound b hb
          · exact ⟨by simp [Value.ownBlock]; omega, by omega⟩
          · exact ⟨by simp [Value.ownBlock]; omega, by omega⟩)
        clear O3
        obtain ⟨T, hT⟩ : ∃ T : Nat → Prop, T = fun b => S b ∨ b = w0.heap.size ∨ b = sb := ⟨_, rfl⟩
        rw [← hT] at OT
        have hTS : ∀ b, T b → w.heap.size ≤ b ∧ b ≠ w.heap.size + 1 := by
          intro b hb
          rw [hT] at hb
          rcases hb with hb | rfl | rfl
          · exact HS.out b hb
          · omega
          · omega
        have c0 : w3.cell? ⟨w0.heap.size, 0, none⟩ = some (.int .i64 c.1) := cell_below (by simp) hB3
        have c1 : w3.cell? ⟨w0.heap.size, 1, none⟩ = some (.slice va vl vc) := cell_below (by simp) hB3
        have hTh : T w0.heap.size := by rw [hT]; exact .inr (.inl rfl)
        have hTb : T sb := by rw [hT]; exact .inr (.inr rfl)
        have V3 : Rd (.sl stT) T w3 [.slice va vl vc] c.2.1 := HVS.out.keep (fun b hb' => hb3.block b (HO.out.bound b hb').2) (fun b hb => by rw [hT]; exact .inl hb)
        have HV3 := Lib.hid V3; clear V3
        have HOT := Lib.hid OT; clear OT
        have HM3 := Lib.hid M3; clear M3
        have HTS := Lib.hid hTS; clear hTS
        have HT := Lib.hid hT; clear hT
        have HTh := Lib.hid hTh; clear hTh
        have HTb := Lib.hid hTb; clear hTb
        have HC := Lib.hid (And.intro c0 c1); clear c0 c1
        go_loopw [6, 43] (fun v i wr => ∃ (k : Nat) (Q' : List wayT.den) (f' : Int → Bool) (nm' : Nat) (S' : Nat → Prop), k ≤ 8 ∧ i = .int .i64 k ∧ (stepsL.take k).foldl (innerF c) (q, f) = (Q', f') ∧ OwnsO wayT 48 w.heap.size S' wr v Q' ∧ MapB Try.prog 3 4 .i64 wr (w.heap.size + 1) nm' f' ∧
          v.ownBlock ≠ some (w.heap.size + 1) ∧ (∀ b, S' b → w.heap.size ≤ b ∧ b ≠ w.heap.size + 1) ∧ (∀ b, T b → S' b ∧ wr.heap[b]? = w3.heap[b]?) ∧ Q'.length ≤ q.length + k ∧ nm' ≤ nm + k ∧ (∀ x ∈ Q', x.2.1.length ≤ 6 - gk) ∧ Below w.heap.size w wr) (fun _ i _ => 8 - (intOf i).toNat)
        case atStart => exact ⟨0, q, f, nm, T, by omega, rfl, rfl, HOT.out, HM3.out, hne, HTS.out, fun b hb => ⟨hb, rfl⟩, by omega, by omega, fun x hx => by have := HQS.out x (by simp [hx]); omega, hB30⟩
        case round =>
          obtain ⟨k, Q', f', nm', S', hk, rfl, hfold, hO', hM', hne', hS', hT', hQl', hnm', hQs', hBi⟩ := hrel
          have HM' := Lib.hid hM'; clear hM'
          have HO' := Lib.hid hO'; clear hO'
          have HF' := Lib.hid hfold; clear hfold
          have HS' := Lib.hid hS'; clear hS'
          have HQ' := Lib.hid (And.intro hQl' hnm'); clear hQl' hnm'
          have HQS' := Lib.hid hQs'; clear hQs'
          have HT' := Lib.hid hT'; clear hT'
          by_cases hlt : k < 8
          case neg =>
            obtain rfl : k = 8 := by omega
            go_wp2
            go_roundg gk
            case measure => omega
            case rel =>
              refine ⟨Q', f', nm', S', ?_, HO'.out, HM'.out, hne', HS'.out, ?_, ?_, HQS'.out, by omega, hBi⟩
              · have hb := HBF.out
                simp only [bfs] at hb
                rw [if_neg HCT.out] at hb
                have hfo : stepsL.foldl (innerF c) (q, f) = (Q', f') := HF'.out
                rw [hfo] at hb
                exact hb
              · have := HQ'.out; have := HZ0.out; simp only [List.length_cons] at this; omega
              · have := HQ'.out; have := HZ0.out; simp only [List.length_cons] at this; omega
          have hBa := (Below.refl wr.heap.size wr).alloc (Nat.le_refl _) (.cells #[.int .i64 (sdN stepsL k), .int .i64 (saN stepsL k)] 33)
          have y0 : wr.cell? ⟨sb, k * 2, none⟩ = some (.int .i64 (sdN stepsL k)) := (World.cell?_of_block (w := w3) (HT'.out sb HTb.out).2).trans (HSX.out k hlt).1
          have y1 : wr.cell? ⟨sb, k * 2 + 1, none⟩ = some (.int .i64 (saN stepsL k)) := (World.cell?_of_block (w := w3) (HT'.out sb HTb.out).2).trans (HSX.out k hlt).2
          have z0 : wr.cell? ⟨w0.heap.size, 0, none⟩ = some (.int .i64 c.1) := (World.cell?_of_block (w := w3) (HT'.out _ HTh.out).2).trans HC.out.1
          have z1 : wr.cell? ⟨w0.heap.size, 1, none⟩ = some (.slice va vl vc) := (World.cell?_of_block (w := w3) (HT'.out _ HTh.out).2).trans HC.out.2
          have z0' : ∀ o, (wr.alloc o).cell? ⟨w0.heap.size, 0, none⟩ = some (.int .i64 c.1) := fun o => cell_below z0 ((Below.refl _ _).alloc (Nat.le_refl _) _)
          obtain ⟨r, hr⟩ : ∃ r, nextF c.1 (sdN stepsL k) (saN stepsL k) = r := ⟨_, rfl⟩
          have hwf1 : (Lit.int .i64 r.1).wf = true := by rw [← hr]; exact wf_i64 (nextF_le _ _ _).1 (by have := (nextF_le c.1 (sdN stepsL k) (saN stepsL k)).2; omega)
          have HR := Lib.hid hr; clear hr
          have hst : Hid (innerF c (Q', f') stepsL[k] = if r.2 = 0 ∧ f' r.1 = false then (Q' ++ [(r.1, c.2.1 ++ [stepsL[k]], ())], fun x => if x = r.1 then true else f' x) else (Q', f')) := Lib.hid (by
            have e := st_get stepsL k hlt
            rw [innerF, ← e, HR.out])
          by_cases h0 : r.2 = 0
          case neg =>
            have HST : Hid ((stepsL.take (k + 1)).foldl (innerF c) (q, f) = (Q', f')) := Lib.hid (by rw [fold_take' _ _ stepsL k hlt, HF'.out, hst.out, if_neg (fun h => h0 h.1)])
            have hq0 : (r.2 == 0) = false := by simpa using h0
            clear h0
            go_wp2_with (first | (go_at_call 19; refine (next_sum _ _ _ _).mono ?_; rw [HR.out]; rintro e wj ⟨rfl, hBj⟩; have hBj' := below_step hBa hBj; have hlk := (HM'.out.below hBj').lookup (t := 50) Try.underlying3 Try.underlying4 Try.underlying50 (HZ.out wj) hwf1; (obtain ⟨wu, hup2, MU, gU⟩ := (HM'.out.below hBj').update (t := 50) Try.underlying3 Try.underlying4 Try.underlying50 (by have := HQ'.out; have := HZ0.out; simp only [List.length_cons, maxLen] at this ⊢; omega) r.1 hwf1 true)))
            all_goals
              go_roundw
              case rel => exact ⟨k + 1, Q', f', nm', S', by omega, by go_num, HST.out, HO'.out.below hBj', HM'.out.below hBj', hne', HS'.out, fun b hb => ⟨(HT'.out b hb).1, (hBj'.block b (HO'.out.bound b (HT'.out b hb).1).2).trans (HT'.out b hb).2⟩, by have := HQ'.out; omega, by have := HQ'.out; omega, HQS'.out, below_step hBi hBj'⟩
              case measure => simp [intOf]; omega
          cases hz : f' r.1 with
          | true =>
            have HST : Hid ((stepsL.take (k + 1)).foldl (innerF c) (q, f) = (Q', f')) := Lib.hid (by rw [fold_take' _ _ stepsL k hlt, HF'.out, hst.out, if_neg (fun h => by rw [hz] at h; exact absurd h.2 (by simp))])
            have HZZ := Lib.hid hz; clear hz
            go_wp2_with (first | (go_at_call 19; refine (next_sum _ _ _ _).mono ?_; rw [HR.out]; rintro e wj ⟨rfl, hBj⟩; have hBj' := below_step hBa hBj; have hlk := (HM'.out.below hBj').lookup (t := 50) Try.underlying3 Try.underlying4 Try.underlying50 (HZ.out wj) hwf1; rw [HZZ.out] at hlk; (obtain ⟨wu, hup2, MU, gU⟩ := (HM'.out.below hBj').update (t := 50) Try.underlying3 Try.underlying4 Try.underlying50 (by have := HQ'.out; have := HZ0.out; simp only [List.length_cons, maxLen] at this ⊢; omega) r.1 hwf1 true)))
            all_goals
              go_roundw
              case rel => exact ⟨k + 1, Q', f', nm', S', by omega, by go_num, HST.out, HO'.out.below hBj', HM'.out.below hBj', hne', HS'.out, fun b hb => ⟨(HT'.out b hb).1, (hBj'.block b (HO'.out.bound b (HT'.out b hb).1).2).trans (HT'.out b hb).2⟩, by have := HQ'.out; omega, by have := HQ'.out; omega, HQS'.out, below_step hBi hBj'⟩
              case measure => simp [intOf]; omega
          | false =>
            have HST : Hid ((stepsL.take (k + 1)).foldl (innerF c) (q, f) = (Q' ++ [(r.1, c.2.1 ++ [(sdN stepsL k, saN stepsL k, ())], ())], fun x => if x = r.1 then true else f' x)) := Lib.hid (by rw [fold_take' _ _ stepsL k hlt, HF'.out, hst.out, if_pos ⟨h0, hz⟩, ← st_get stepsL k hlt])
            have HZZ := Lib.hid hz; clear hz
            go_wp2_with (first | (go_at_call 19; refine (next_sum _ _ _ _).mono ?_; rw [HR.out]; rintro e wj ⟨rfl, hBj⟩; have hBj' := below_step hBa hBj; have hlk := (HM'.out.below hBj').lookup (t := 50) Try.underlying3 Try.underlying4 Try.underlying50 (HZ.out wj) hwf1; rw [HZZ.out] at hlk; (obtain ⟨wu, hup2, MU, gU⟩ := (HM'.out.below hBj').update (t := 50) Try.underlying3 Try.underlying4 Try.underlying50 (by have := HQ'.out; have := HZ0.out; simp only [List.length_cons, maxLen] at this ⊢; omega) r.1 hwf1 true)))
            have b0 : (wr.alloc (.cells #[.int .i64 (sdN stepsL k), .int .i64 (saN stepsL k)] 33)).cell? ⟨wr.heap.size, 0, none⟩ = some (.int .i64 (sdN stepsL k)) := by simp
            have b1 : (wr.alloc (.cells #[.int .i64 (sdN stepsL k), .int .i64 (saN stepsL k)] 33)).cell? ⟨wr.heap.size, 1, none⟩ = some (.int .i64 (saN stepsL k)) := by simp
            have hml := HM'.out.lt
            have hsz3 : wr.heap.size < wj.heap.size := by have := hBj.size; simp at this; omega
            have ku : ∀ b, b < wj.heap.size → b ≠ w.heap.size + 1 → wu.heap[b]? = wj.heap[b]? := fun b hb hn => gU.block b hb (fun e => by cases e; exact hn rfl)
            have hTh2 := HT'.out _ HTh.out
            have hTh3 := HO'.out.bound _ hTh2.1
            have d0 : wu.cell? ⟨wr.heap.size, 0, none⟩ = some (.int .i64 (sdN stepsL k)) := (World.cell?_of_block (w := wj) (ku wr.heap.size hsz3 (by omega))).trans (cell_below b0 hBj)
            have d1 : wu.cell? ⟨wr.heap.size, 1, none⟩ = some (.int .i64 (saN stepsL k)) := (World.cell?_of_block (w := wj) (ku wr.heap.size hsz3 (by omega))).trans (cell_below b1 hBj)
            have d2 : wu.cell? ⟨w0.heap.size, 1, none⟩ = some (.slice va vl vc) := (World.cell?_of_block (w := wj) (ku w0.heap.size (by have := hBj'.size; omega) (HS'.out _ hTh2.1).2)).trans (cell_below z1 hBj')
            have Vu : Rd (.sl stT) (fun b => b < wu.heap.size) wu [.slice va vl vc] c.2.1 := HV3.out.keep (fun b hb => by
              have h1 := HT'.out b hb
              have h2 := HO'.out.bound b h1.1
              rw [ku b (by have := hBj'.size; omega) (HS'.out b h1.1).2, hBj'.block b h2.2, h1.2]) (fun b hb => by
              have h1 := HT'.out b hb
              have h2 := HO'.out.bound b h1.1
              have := hBj'.size
              have := gU.size
              omega)
            have HVu := Lib.hid Vu; clear Vu
            clear b0 b1 y0 y1 z0 z1 z0' hlk hup2
            have hcl : List.length c.2.1 ≤ 5 := by have := HQS.out c (by simp); omega
            have hcells : ∀ w', Below wu.heap.size wu w' → w'.cell? ⟨wr.heap.size, 0, none⟩ = some (.int .i64 (sdN stepsL k)) ∧ w'.cell? ⟨wr.heap.size, 1, none⟩ = some (.int .i64 (saN stepsL k)) ∧ w'.cell? ⟨w0.heap.size, 1, none⟩ = some (.slice va vl vc) :=
              fun w' hB => ⟨cell_below d0 hB, cell_below d1 hB, cell_below d2 hB⟩
            have hsw := steps_wf k hlt
            have hu6a : some wr.heap.size ≠ u6.ownBlock := fun e => absurd (HO'.out.own _ e.symm).2 (Nat.lt_irrefl _)
            have hu6b : some w0.heap.size ≠ u6.ownBlock := fun e => hTh3.1 e.symm
            have hwu0 := gU.size
            have hwj0 := hBj'.size
            have hwu1 : wr.heap.size < wu.heap.size := by omega
            have hwu2 : w0.heap.size < wu.heap.size := by have := hTh3.2; omega
            have hQb : Q'.length ≤ 100 := by have := HQ'.out; have := HZ0.out; simp only [List.length_cons] at this; omega
            have hBju := below_step hBi hBj'
            have hnw := hBi.size
            have HOu : Hid (OwnsO wayT 48 w.heap.size S' wu u6 Q') := Lib.hid (HO'.out.keep (fun b hb => by
              have h2 : b < wr.heap.size ∧ b ≠ w.heap.size + 1 := by
                rcases hb with hb | hb
                · exact ⟨(HO'.out.bound b hb).2, (HS'.out b hb).2⟩
                · exact ⟨(HO'.out.own b hb).2, fun e => hne' (by rw [hb, e])⟩
              rw [ku b (by omega) h2.2, hBj'.block b h2.1]) (fun _ h => h) (fun b hb => ⟨(HO'.out.bound b hb).1, by have := (HO'.out.bound b hb).2; omega⟩))
            go_region_held3 (fun w' => w'.cell? ⟨wr.heap.size, 0, none⟩ = some (.int .i64 (sdN stepsL k)) ∧ w'.cell? ⟨wr.heap.size, 1, none⟩ = some (.int .i64 (saN stepsL k)) ∧ w'.cell? ⟨w0.heap.size, 1, none⟩ = some (.slice va vl vc))
              (first | assumption | exact hcells _ (below_drew _) | exact hcells _ (by assumption) | exact hcells _ (below_alloc' (below_drew _) _) | exact hcells _ (below_alloc' (by assumption) _))
              (first
              | (go_at_call_of 27 (Value.slice va vl vc); refine (clone_sum _ _ _ (HVu.out.alloc (by first | assumption | exact below_drew _ | exact below_alloc' (below_drew _) _)) (by omega)).mono ?_; rintro e w4 ⟨cv, rfl, hB4, hO4⟩; have hB4u : Below wu.heap.size wu w4 := below_step (by first | assumption | exact below_drew _ | exact below_alloc' (below_drew _) _) hB4)
              | (refine step_app (w4.alloc _) rfl _ _ 27 rfl (e := stT) info_st Try.underlying27 rfl (by decide) (v := cv) rfl (hO4.alloc _) (by have := hB4.size; simp at this ⊢; omega) rfl (ys := [(_, _, ())]) rfl (news_new w4 [_, _] _) (RdL.st1 hsw.1 hsw.2) (by omega) (by omega) ?_; intro v5 w5 O5 g5; have hB5u : Below wu.heap.size wu w5 := (below_alloc' hB4u _).grown g5 (by have := hB4u.size; simp; omega) (fun k e => by have := (hO4.own k e).1; simp at this; omega); obtain ⟨a5, l5, c5, rfl, -⟩ := O5.slice; have h5lo : ∀ b, (Value.slice a5 l5 c5).ownBlock = some b → wu.heap.size ≤ b ∧ b < w5.heap.size := fun b hb => ⟨by have h1 := (O5.own b hb).1; have h2 := hB4u.size; simp at h1; omega, (O5.own b hb).2⟩; have hO6 : OwnsO wayT 48 w.heap.size (fun b => S' b ∨ (Value.slice a5 l5 c5).ownBlock = some b) w5 u6 Q' := HOu.out.keep (fun b hb => hB5u.block b (by rcases hb with hb | hb; exact (HOu.out.bound b hb).2; exact (HOu.out.own b hb).2)) (fun b hb => .inl hb) (fun b hb => by rcases hb with hb | hb; exact ⟨(HOu.out.bound b hb).1, Nat.lt_of_lt_of_le (HOu.out.bound b hb).2 hB5u.size⟩; exact ⟨fun e => by have h1 := (HOu.out.own b e).2; have h2 := (h5lo b hb).1; omega, (h5lo b hb).2⟩))
              | (refine step_app w4 rfl _ _ 27 rfl (e := stT) info_st Try.underlying27 rfl (by decide) (v := cv) rfl hO4 hB4.size rfl (ys := [(_, _, ())]) rfl (news_below hB4 (news_new _ [_, _] _)) (RdL.st1 hsw.1 hsw.2) (by omega) (by omega) ?_; intro v5 w5 O5 g5; have hB5u : Below wu.heap.size wu w5 := hB4u.grown g5 hB4u.size (fun k e => by have := (hO4.own k e).1; simp at this; omega); obtain ⟨a5, l5, c5, rfl, -⟩ := O5.slice; have h5lo : ∀ b, (Value.slice a5 l5 c5).ownBlock = some b → wu.heap.size ≤ b ∧ b < w5.heap.size := fun b hb => ⟨by have h1 := (O5.own b hb).1; have h2 := hB4u.size; simp at h1; omega, (O5.own b hb).2⟩; have hO6 : OwnsO wayT 48 w.heap.size (fun b => S' b ∨ (Value.slice a5 l5 c5).ownBlock = some b) w5 u6 Q' := HOu.out.keep (fun b hb => hB5u.block b (by rcases hb with hb | hb; exact (HOu.out.bound b hb).2; exact (HOu.out.own b hb).2)) (fun b hb => .inl hb) (fun b hb => by rcases hb with hb | hb; exact ⟨(HOu.out.bound b hb).1, Nat.lt_of_lt_of_le (HOu.out.bound b hb).2 hB5u.size⟩; exact ⟨fun e => by have h1 := (HOu.out.own b e).2; have h2 := (h5lo b hb).1; omega, (h5lo b hb).2⟩))
              | (refine step_appO (w5.alloc _) rfl _ _ 49 rfl (e := wayT) info_way Try.underlying49 rfl (by decide) (v := u6) rfl (hO6.below ((Below.refl _ _).alloc (Nat.le_refl _) _)) (by have := hB5u.size; simp; omega) rfl (ys := [(_, _, ())]) rfl (news_new w5 [_, _] _) (RdL.one ⟨[_], [_], rfl, ⟨rfl, hwf1⟩, [_], [], rfl, (O5.alloc _).rd _ (fun _ h => h.elim) (fun b hb => .inr hb), rfl⟩) (by omega) (by omega) (by omega) ?_; intro v7 w7 O7 g7 hob7; have hX5 := below_alloc' hB5u (.cells #[.int .i64 r.1, .slice a5 l5 c5] 48); have hc5 := hcells _ hX5; have hc7 : w7.cell? ⟨wr.heap.size, 0, none⟩ = some (.int .i64 (sdN stepsL k)) ∧ w7.cell? ⟨wr.heap.size, 1, none⟩ = some (.int .i64 (saN stepsL k)) ∧ w7.cell? ⟨w0.heap.size, 1, none⟩ = some (.slice va vl vc) := ⟨(g7.cell_far ⟨wr.heap.size, 0, none⟩ (Nat.lt_of_lt_of_le hwu1 hX5.size) hu6a).trans hc5.1, (g7.cell_far ⟨wr.heap.size, 1, none⟩ (Nat.lt_of_lt_of_le hwu1 hX5.size) hu6a).trans hc5.2.1, (g7.cell_far ⟨w0.heap.size, 1, none⟩ (Nat.lt_of_lt_of_le hwu2 hX5.size) hu6b).trans hc5.2.2⟩))
            all_goals
              have hB7 : Below w.heap.size w w7 := ((((hBju.grown gU (by omega) (fun k e => by cases e; omega)).trans (hX5.mono (by omega))).grown g7 (by have := hX5.size; omega) (fun b e => (HO'.out.own b e).1)))
              have hM7 : MapB Try.prog 3 4 .i64 w7 (w.heap.size + 1) (nm' + 1) (fun x => if x = r.1 then true else f' x) := MU.keep ((g7.block (w.heap.size + 1) (by have := MU.lt; have := hX5.size; omega) (fun e => hne' e.symm)).trans (hX5.block _ MU.lt))
              have hb5 : ∀ b, (Value.slice a5 l5 c5).ownBlock = some b → w.heap.size ≤ b ∧ b ≠ w.heap.size + 1 := fun b hb => by
                have := (h5lo b hb).1
                have := MU.lt
                omega
              have hT7 : ∀ b, T b → w7.heap[b]? = w3.heap[b]? := fun b hb => by
                have e1 := HT'.out b hb
                have e2 := HO'.out.bound b e1.1
                rw [g7.block b (by have := hX5.size; omega) (fun e => e2.1 e.symm), hX5.block b (by omega), ku b (by omega) (HS'.out b e1.1).2, hBj'.block b e2.2, e1.2]
              have hn7 : v7.ownBlock ≠ some (w.heap.size + 1) := by
                rcases hob7 with e | e
                · rw [e]; exact hne'
                · rw [e]
                  intro e2
                  have := MU.lt
                  have := hB5u.size
                  simp only [World.size_alloc, Option.some.injEq] at e2
                  omega
              go_wp2
              go_roundw
              case rel =>
                refine ⟨k + 1, _, _, nm' + 1, _, by omega, by go_num, HST.out, O7, hM7, hn7, ?_, fun b hb => ⟨.inl (HT'.out b hb).1, hT7 b hb⟩, ?_, by have := HQ'.out; omega, ?_, hB7⟩
                · intro b hb
                  rcases hb with hb | hb
                  · exact HS'.out b hb
                  · exact hb5 b hb
                · have := HQ'.out
                  simp only [List.length_append, List.length_cons, List.length_nil]
                  omega
                · intro x hx
                  rcases List.mem_append.1 hx with hx | hx
                  · exact HQS'.out x hx
                  · rw [List.mem_singleton.1 hx]
                    have := HQS.out c (by simp)
                    simp only [List.length_append, List.length_cons, List.length_nil]
                    omega
              case measure => simp [intOf]; omega
end Go.Proofs.Ytmlcdoilbonelaa
