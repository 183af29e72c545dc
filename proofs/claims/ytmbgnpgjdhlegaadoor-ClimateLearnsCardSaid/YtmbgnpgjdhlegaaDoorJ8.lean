/- Parts put together: Yk. -/
import Derived.Test.YtmbgnpgjdhlegaaDoorJ7
set_option linter.unusedSimpArgs false
set_option linter.unusedVariables false
/- ClimateLearns answers true. -/
namespace Go.Proofs.YtmbgnpgjdhlegaaDoor
open Go Go.PM Go.Grid
attribute [local congr] hd_bind hd_need hd_cond hd_unc hd_uncV hd_uncO hd_unI hd_asI hd_asB hd_asS hd_asSl hd_asFn hd_asP hd_rC hd_rA hd_rT hd_rG hd_rP hd_rO hd_rN hd_rF hd_rS hd_rW hd_nilV hd_natD hd_bd hd_iter hd_over hd_sliceC hd_asMp hd_asYF
def bs (l : List Bool) : List C := l.map fun b => .v (.bool b)
theorem bs_length (l : List Bool) : (bs l).length = l.length := by simp [bs]
theorem bs_drop (l : List Bool) (k : Nat) : (bs l).drop k = bs (l.drop k) := by simp [bs, List.map_drop]
theorem bs_at {l : List Bool} {k : Nat} (h : k < l.length) : (bs l).drop k = .v (.bool l[k]) :: bs (l.drop (k + 1)) := by
  rw [bs_drop, List.drop_eq_getElem_cons h]; rfl
theorem bs_put {l : List Bool} {k : Nat} (h : k < l.length) (x : Bool) : putAt (bs l) k [.v (.bool x)] = bs (l.set k x) := by
  unfold putAt bs
  rw [List.set_eq_take_append_cons_drop, if_pos h]
  simp [List.map_take, List.map_drop]
theorem reps_false (n : Nat) : reps n [C.v (.bool false)] = bs (List.replicate n false) := by
  unfold reps bs
  induction n with
  | zero => rfl
  | succ n ih => simp only [List.replicate_succ, List.flatten_cons, List.map_cons, ih]; rfl
def hit (n : Nm) (x : Key × Int) : Bool := x.1 == n.key && ((if n.mean - x.2 > x.2 - n.mean then n.mean - x.2 else x.2 - n.mean) == n.sp)
def hits (I : List (Key × Int)) (n : Nm) : Bool := I.any (hit n)
theorem hits_snoc (I : List (Key × Int)) (x : Key × Int) (n : Nm) : hits (I ++ [x]) n = (hits I n || hit n x) := by simp [hits]
def mix (L : List Nm) (I : List (Key × Int)) (x : Key × Int) (i : Nat) : List Bool := (L.take i).map (hits (I ++ [x])) ++ (L.drop i).map (hits I)
theorem mix_length (L : List Nm) (I : List (Key × Int)) (x : Key × Int) (i : Nat) : (mix L I x i).length = L.length := by
  simp [mix]; omega
theorem mix_zero (L : List Nm) (I : List (Key × Int)) (x : Key × Int) : mix L I x 0 = L.map (hits I) := by simp [mix]
theorem mix_all (L : List Nm) (I : List (Key × Int)) (x : Key × Int) : mix L I x L.length = L.map (hits (I ++ [x])) := by simp [mix]
theorem mix_same {L : List Nm} {I : List (Key × Int)} {x : Key × Int} {i : Nat} (hi : i < L.length) (h : hit L[i] x = false) : mix L I x i = mix L I x (i + 1) := by
  unfold mix
  rw [List.take_succ_eq_append_getElem hi, List.drop_eq_getElem_cons hi, List.map_append, List.map_cons, List.append_assoc]
  congr 1
  simp only [List.map_cons, List.map_nil, List.singleton_append, hits_snoc, h, Bool.or_false]
theorem mix_set {L : List Nm} {I : List (Key × Int)} {x : Key × Int} {i : Nat} (hi : i < L.length) (h : hit L[i] x = true) : (mix L I x i).set i true = mix L I x (i + 1) := by
  unfold mix
  have hl : ((L.take i).map (hits (I ++ [x]))).length = i := by simp; omega
  rw [List.set_append_right _ _ (by omega), hl, Nat.sub_self, List.take_succ_eq_append_getElem hi, List.drop_eq_getElem_cons hi, List.map_append, List.map_cons, List.append_assoc, List.set_cons_zero]
  congr 1
  simp only [List.map_cons, List.map_nil, List.singleton_append, hits_snoc, h, Bool.or_true]
def turned (X : List Rep) (p : List Int) : List Rep := p.map fun i => X.getD i.toNat ⟨0, ⟨#[]⟩, 0, ⟨0, 0, 0, 0⟩, []⟩
theorem turned_perm {X : List Rep} {p : List Int} (h : p.Perm (upTo X.length)) : (turned X p).Perm X := by
  have h1 := h.map fun i => X.getD i.toNat ⟨0, ⟨#[]⟩, 0, ⟨0, 0, 0, 0⟩, []⟩
  refine h1.trans (List.Perm.of_eq ?_)
  unfold upTo
  rw [List.map_map]
  apply List.ext_getElem
  · simp
  · intro i h2 h3
    simp [h3]
theorem vals_perm {X Y : List Rep} (h : Y.Perm X) (k : Key) : (vals (items X) k).Perm (vals (items Y) k) := by
  unfold vals items
  exact ((h.symm.flatMap_right _).filter _).map _
theorem turned_length (X : List Rep) (p : List Int) : (turned X p).length = p.length := by simp [turned]
theorem upTo_mem {n : Nat} {v : Int} (h : v ∈ upTo n) : 0 ≤ v ∧ v < (n : Nat) := by
  unfold upTo at h
  obtain ⟨i, hi, rfl⟩ := List.mem_map.1 h
  have := List.mem_range.1 hi
  omega
theorem turned_at {X : List Rep} {p : List Int} {j : Nat} (hj : j < p.length) (hx : p[j].toNat < X.length) : (turned X p)[j]'(by rw [turned_length]; exact hj) = X[p[j].toNat] := by
  simp [turned, hx]
theorem key_inj {D : List Nm} (h : D.Pairwise fun a b => klt a.key b.key) {i q : Nat} (hi : i < D.length) (hq : q < D.length) (e : D[i].key = D[q].key) : i = q := by
  rw [List.pairwise_iff_getElem] at h
  rcases Nat.lt_trichotomy i q with hlt | he | hlt
  · have := h i q hi hq hlt; rw [e] at this; exact absurd this (klt_irrefl _)
  · exact he
  · have := h q i hq hi hlt; rw [e] at this; exact absurd this (klt_irrefl _)
theorem find_normal (fu : Nat) (hf : 18446744073709551616 ≤ fu) {X : List Rep} (hok : ∀ x ∈ X, okRep x) (hX : X.length ≤ 18) {D : List Nm} (hD : IsL (items X) D) {x : Key × Int} (hx : x ∈ items X) : ∃ q, ∃ hq : q < D.length, D[q].key = x.1 ∧ x.2 - D[q].mean ≤ D[q].sp ∧ D[q].mean - x.2 ≤ D[q].sp := by
  have hm : x.2 ∈ vals (items X) x.1 := mem_vals.2 hx
  have hl := items_length hok
  have hv : okVs (vals (items X) x.1) := by
    refine ⟨⟨List.length_pos_of_mem hm, ?_⟩, fun v hv => (items_ok hok (mem_vals.1 hv)).2.2.2⟩
    unfold vals; rw [List.length_map]
    have := List.length_filter_le (fun y : Key × Int => decide (y.1 = x.1)) (items X)
    omega
  obtain ⟨n, hn, _⟩ := sp_learned fu 0 hf x.1 _ hv
  have hk := hn.key
  have hmem : n ∈ D := (hD.mem n).2 (by rw [hk]; exact ⟨List.ne_nil_of_mem hm, hn⟩)
  obtain ⟨q, hq, e⟩ := List.mem_iff_getElem.1 hmem
  refine ⟨q, hq, ?_⟩
  rw [e]
  exact ⟨hk, hn.all _ hm⟩
theorem nm_eqb (a b : Nm) : ((a.e == b.e) && ((a.f == b.f) && ((a.m == b.m) && ((a.mean == b.mean) && (a.sp == b.sp))))) = decide (a = b) := by
  obtain ⟨a1, a2, a3, a4, a5⟩ := a
  obtain ⟨b1, b2, b3, b4, b5⟩ := b
  rw [Bool.eq_iff_iff]
  simp only [Bool.and_eq_true, beq_iff_eq, decide_eq_true_eq, Nm.mk.injEq]
theorem all_hit {X : List Rep} {D : List Nm} (hD : IsL (items X) D) {n : Nm} (hn : n ∈ D) : hits (items X) n = true := by
  obtain ⟨q1, q2⟩ := (hD.mem n).1 hn
  obtain ⟨v, hv, e⟩ := q2.one
  have h3 := q2.all v hv
  unfold hits
  rw [List.any_eq_true]
  refine ⟨(n.key, v), mem_vals.1 hv, ?_⟩
  unfold hit
  simp only [beq_self_eq_true, Bool.true_and, beq_iff_eq]
  split <;> omega
section
variable (fu d : Nat) (hf : 18446744073709551616 ≤ fu)
include hf
set_option maxHeartbeats 8000000 in
set_option maxRecDepth 4000 in
theorem sp_ClimateLearns (l : List Int) : cl fu (d + 11) fn_synopticlaw13_ClimateLearns [V.c (C.sl l.length (ints l))] [] = OK (B true) := by
  have hN := sp_New fu (d + 9) l
  have hL : (l.take 2000).length ≤ 2000 := by rw [List.length_take]; omega
  generalize hS : l.take 2000 = S at hN hL
  obtain ⟨m, j1, c1, hm⟩ := sp_Minute fu (d + 6) S hL 0
  obtain ⟨X, j2, ⟨hX, hok⟩, c2⟩ := sp_Placed fu (d + 3) S hL hf 6 (by omega) m hm j1
  obtain ⟨A, hA, hAl, hAb, c3⟩ := sp_Learn fu (d + 1) hf X (by omega) hok
  have hAx : okL A := by
    refine ⟨hAl, hA.asc, fun n hn => ?_⟩
    obtain ⟨q1, q2⟩ := (hA.mem n).1 hn
    obtain ⟨v, hv⟩ := List.exists_mem_of_ne_nil _ q1
    obtain ⟨a1, a2, a3, _⟩ := items_ok hok (mem_vals.1 hv)
    obtain ⟨b1, b2, b3, b4⟩ := hAb n hn
    have b5 : n.m ≤ 12 := by
      have h5 := mem_vals.1 hv
      unfold items at h5
      obtain ⟨x, hx, h6⟩ := List.mem_flatMap.1 h5
      unfold itemsR at h6
      obtain ⟨r, hr, e⟩ := List.mem_map.1 h6
      have e1 : n.m = ((mo x.tm + 1 : Nat) : Int) := by
        have := congrArg (fun z : Key × Int => z.1.2.2) e
        exact this.symm
      have := (sp_Date' fu 0 hf x.tm (hok x hx).2.2).1
      omega
    exact ⟨a1, a2, ⟨a3, b5⟩, ⟨by omega, by omega⟩, ⟨b3, by omega⟩⟩
  have c4 := sp_Validate fu (d + 4) hf A hAx
  obtain ⟨p, j3, hp, c5⟩ := sp_Order fu (d + 7) S hL hf X.length (by omega) j2
  have hpl : p.length = X.length := by have := hp.length_eq; simpa [upTo] using this
  have hY := turned_perm hp
  have hYok : ∀ x ∈ turned X p, okRep x := fun x hx => hok x (hY.mem_iff.1 hx)
  have hYl : (turned X p).length = X.length := hY.length_eq
  obtain ⟨D, hD, _, _, c6⟩ := sp_Learn fu (d + 1) hf (turned X p) (by omega) hYok
  have hDA : D = A := IsL.unique (fun k => (vals_perm hY k).symm) hD hA
  subst hDA
  have c7 := sp_refSame fu (d + 9) hf D (by omega)
  have eO0 : Nat.beq 1000000 (OUT + 0) = true := rfl
  have eO1 : Nat.beq 1000001 (OUT + 1) = true := rfl
  have hfl := fl_length repC_length X
  have htk : List.take (X.length * 8) (fl repC X) = fl repC X := List.take_of_length_le (by omega)
  have hplt : ∀ j (hj : j < p.length), 0 ≤ p[j] ∧ p[j] < (X.length : Nat) := fun j hj => upTo_mem (hp.mem_iff.1 (List.getElem_mem hj))
  unfold srcO srcC at hN c1 c2 c5
  rw [eq_synopticlaw13_ClimateLearns, hN]
  simp (disch := omega) only [hdt_eq, obs, rC_c, rA_agg, rT_tup, rP_ptr, rW_own, rS_sb, rF_sb, uncV_cons, uncO_cons, nilV_nil, rO_ob, rN_ob, unc_cons, asI_int, asB_bool, asS_string, asSl_sl, asSl_nl, asFn_fn, asP_cp, nrm_sl, nrm_nl, need_true, ct, cf, bd_eq, natD_zero, natD_succ, natD_one, noYl_v, noYl_sl, noYl_nl, noYl_cp, noYl_fn, Bool.and_true, Bool.true_and, Bool.and_self, beqN_self, Bool.not_true, Bool.not_false, Bool.and_false, Bool.false_and, Bool.or_false, Bool.false_or, Bool.or_true, Bool.true_or, wrap_in, dlt_t, dlt_f, dle_t, dle_f, dgt_t, dgt_f, dge_t, dge_f, ibeq_t, ibeq_f, ibne_t, ibne_f, inR_int, beqN_eq, bleN_le, c1, c2, c5, eO0, eO1, hfl, htk, c3, c4, List.length_cons, List.length_nil, Nat.zero_add, Nat.reduceAdd, bne_self_eq_false]
  rw [iter_runx (fun j : Nat => (fl repC ((turned X p).take j), ((j : Nat) : Int), ())) 0 (fl repC (turned X p), ((p.length : Nat) : Int), ()) p.length ?_ ?_ ?_ (by omega)]
  rotate_left
  · rfl
  · intro j hj
    obtain ⟨b1, b2⟩ := hplt j hj
    have hu := unc_ik (kd := .i64) (l := p) (k := j) hj (R := Nat × (List C × Int × Unit))
    have hk : p[j].toNat < X.length := by omega
    have hat := fl_at repC_length hk
    have hflj : (fl repC ((turned X p).take j)).length = j * 8 := by rw [fl_length repC_length, List.length_take, Nat.min_eq_left (by omega)]
    have hdv : j * 8 / 8 = j := by omega
    have hsn := rep_snoc ((turned X p).take j) X[p[j].toNat].k X[p[j].toNat].nm X[p[j].toNat].tm X[p[j].toNat].p X[p[j].toNat].rs
    have hts : (turned X p).take j ++ [X[p[j].toNat]] = (turned X p).take (j + 1) := by
      rw [List.take_succ_eq_append_getElem (by rw [turned_length]; exact hj), turned_at hj hk]
    have hsn' : fl repC ((turned X p).take j) ++ [.v (.int .i64 X[p[j].toNat].k), .v (.string X[p[j].toNat].nm), .v (.int .i64 X[p[j].toNat].tm), .v (.int .i64 X[p[j].toNat].p.f), .v (.int .i64 X[p[j].toNat].p.a), .v (.int .i64 X[p[j].toNat].p.b), .v (.int .i64 X[p[j].toNat].p.c), C.sl X[p[j].toNat].rs.length (fl rdc X[p[j].toNat].rs)] = fl repC ((turned X p).take (j + 1)) := by rw [hsn, ← hts]
    have hfl2 : (fl repC ((turned X p).take (j + 1))).length = (j + 1) * 8 := by rw [fl_length repC_length, List.length_take, Nat.min_eq_left (by omega)]
    simp (disch := omega) only [hdt_eq, obs, rC_c, rA_agg, rT_tup, rP_ptr, rW_own, rS_sb, rF_sb, uncV_cons, uncO_cons, nilV_nil, rO_ob, rN_ob, unc_cons, asI_int, asB_bool, asS_string, asSl_sl, asSl_nl, asFn_fn, asP_cp, nrm_sl, nrm_nl, need_true, ct, cf, bd_eq, natD_zero, natD_succ, natD_one, noYl_v, noYl_sl, noYl_nl, noYl_cp, noYl_fn, Bool.and_true, Bool.true_and, Bool.and_self, beqN_self, Bool.not_true, Bool.not_false, Bool.and_false, Bool.false_and, Bool.or_false, Bool.false_or, Bool.or_true, Bool.true_or, wrap_in, dlt_t, dlt_f, dle_t, dle_f, dgt_t, dgt_f, dge_t, dge_f, ibeq_t, ibeq_f, ibne_t, ibne_f, inR_int, beqN_eq, bleN_le, Int.toNat_natCast, Nat.mul_one, hu, htk, hat, repC, List.cons_append, List.nil_append, hflj, hdv, hsn', hfl2]
    rfl
  · have hft : (turned X p).take p.length = turned X p := by rw [← turned_length X p]; exact List.take_length
    have hfl2 := fl_length repC_length (turned X p)
    have hdv : (turned X p).length * 8 / 8 = (turned X p).length := by omega
    rw [hft]
    simp (disch := omega) only [hdt_eq, obs, rC_c, rA_agg, rT_tup, rP_ptr, rW_own, rS_sb, rF_sb, uncV_cons, uncO_cons, nilV_nil, rO_ob, rN_ob, unc_cons, asI_int, asB_bool, asS_string, asSl_sl, asSl_nl, asFn_fn, asP_cp, nrm_sl, nrm_nl, need_true, ct, cf, bd_eq, natD_zero, natD_succ, natD_one, noYl_v, noYl_sl, noYl_nl, noYl_cp, noYl_fn, Bool.and_true, Bool.true_and, Bool.and_self, beqN_self, Bool.not_true, Bool.not_false, Bool.and_false, Bool.false_and, Bool.or_false, Bool.false_or, Bool.or_true, Bool.true_or, wrap_in, dlt_t, dlt_f, dle_t, dle_f, dgt_t, dgt_f, dge_t, dge_f, ibeq_t, ibeq_f, ibne_t, ibne_f, inR_int, beqN_eq, bleN_le, hfl2, hdv]
  have hfl2 := fl_length repC_length (turned X p)
  have hdv2 : (turned X p).length * 8 / 8 = (turned X p).length := by omega
  have htk2 : List.take ((turned X p).length * 8) (fl repC (turned X p)) = fl repC (turned X p) := List.take_of_length_le (by omega)
  simp (disch := omega) only [hdt_eq, obs, rC_c, rA_agg, rT_tup, rP_ptr, rW_own, rS_sb, rF_sb, uncV_cons, uncO_cons, nilV_nil, rO_ob, rN_ob, unc_cons, asI_int, asB_bool, asS_string, asSl_sl, asSl_nl, asFn_fn, asP_cp, nrm_sl, nrm_nl, need_true, ct, cf, bd_eq, natD_zero, natD_succ, natD_one, noYl_v, noYl_sl, noYl_nl, noYl_cp, noYl_fn, Bool.and_true, Bool.true_and, Bool.and_self, beqN_self, Bool.not_true, Bool.not_false, Bool.and_false, Bool.false_and, Bool.or_false, Bool.false_or, Bool.or_true, Bool.true_or, wrap_in, dlt_t, dlt_f, dle_t, dle_f, dgt_t, dgt_f, dge_t, dge_f, ibeq_t, ibeq_f, ibne_t, ibne_f, inR_int, beqN_eq, bleN_le, hfl2, hdv2, htk2, c6, c7, List.length_cons, List.length_nil, Nat.zero_add, Nat.reduceAdd, bne_self_eq_false, Int.toNat_natCast, Nat.mul_one, Nat.div_one, reps_false, bs_length, List.length_replicate]
  have h0 : D.map (hits []) = List.replicate D.length false := by
    rw [List.eq_replicate_iff]
    exact ⟨by simp, fun b hb => by obtain ⟨n, _, rfl⟩ := List.mem_map.1 hb; rfl⟩
  have hml : ∀ I, (D.map (hits I)).length = D.length := fun I => by simp
  rw [iter_runx (fun j : Nat => (false, bs (D.map (hits (items (X.take j)))), ((j : Nat) : Int), ())) 0 (false, bs (D.map (hits (items X))), ((X.length : Nat) : Int), ()) X.length ?_ ?_ ?_ (by omega)]
  rotate_left
  · show _ = (false, bs (D.map (hits [])), ((0 : Nat) : Int), ())
    rw [h0]; rfl
  · intro j hj
    have hat := fl_at repC_length hj
    have hxr := (hok _ (List.getElem_mem hj)).2.1.1
    simp (disch := omega) only [hdt_eq, obs, rC_c, rA_agg, rT_tup, rP_ptr, rW_own, rS_sb, rF_sb, uncV_cons, uncO_cons, nilV_nil, rO_ob, rN_ob, unc_cons, asI_int, asB_bool, asS_string, asSl_sl, asSl_nl, asFn_fn, asP_cp, nrm_sl, nrm_nl, need_true, ct, cf, bd_eq, natD_zero, natD_succ, natD_one, noYl_v, noYl_sl, noYl_nl, noYl_cp, noYl_fn, Bool.and_true, Bool.true_and, Bool.and_self, beqN_self, Bool.not_true, Bool.not_false, Bool.and_false, Bool.false_and, Bool.or_false, Bool.false_or, Bool.or_true, Bool.true_or, wrap_in, dlt_t, dlt_f, dle_t, dle_f, dgt_t, dgt_f, dge_t, dge_f, ibeq_t, ibeq_f, ibne_t, ibne_f, inR_int, beqN_eq, bleN_le, Int.toNat_natCast, Nat.mul_one, Nat.div_one, htk, hat, repC, List.cons_append, List.nil_append, bs_length, hml]
    rw [iter_runx (fun i : Nat => (false, bs (D.map (hits (items (X.take j) ++ (itemsR X[j]).take i))), ((i : Nat) : Int), (X[j].k, X[j].nm, X[j].tm, (X[j].p.f : Int), (X[j].p.a : Int), (X[j].p.b : Int), (X[j].p.c : Int), C.sl X[j].rs.length (fl rdc X[j].rs), ()), ())) 0
      (false, bs (D.map (hits (items (X.take (j + 1))))), ((X[j].rs.length : Nat) : Int), (X[j].k, X[j].nm, X[j].tm, (X[j].p.f : Int), (X[j].p.a : Int), (X[j].p.b : Int), (X[j].p.c : Int), C.sl X[j].rs.length (fl rdc X[j].rs), ()), ()) X[j].rs.length ?_ ?_ ?_ (by omega)]
    · simp (disch := omega) only [hdt_eq, obs, rC_c, rA_agg, rT_tup, rP_ptr, rW_own, rS_sb, rF_sb, uncV_cons, uncO_cons, nilV_nil, rO_ob, rN_ob, unc_cons, asI_int, asB_bool, asS_string, asSl_sl, asSl_nl, asFn_fn, asP_cp, nrm_sl, nrm_nl, need_true, ct, cf, bd_eq, natD_zero, natD_succ, natD_one, noYl_v, noYl_sl, noYl_nl, noYl_cp, noYl_fn, Bool.and_true, Bool.true_and, Bool.and_self, beqN_self, Bool.not_true, Bool.not_false, Bool.and_false, Bool.false_and, Bool.or_false, Bool.false_or, Bool.or_true, Bool.true_or, wrap_in, dlt_t, dlt_f, dle_t, dle_f, dgt_t, dgt_f, dge_t, dge_f, ibeq_t, ibeq_f, ibne_t, ibne_f, inR_int, beqN_eq, bleN_le, Nat.mul_one, Nat.div_one, bs_length, hml]
      rfl
    · rw [List.take_zero, List.append_nil]; rfl
    · intro i hi
      have hat2 := fl_at rdc_length hi
      have hxo := hok _ (List.getElem_mem hj)
      have hmem : ((X[j].rs[i].1, (X[j].p.f : Int), ((mo X[j].tm + 1 : Nat) : Int)), X[j].rs[i].2) ∈ items X := by
        unfold items itemsR
        exact List.mem_flatMap.2 ⟨X[j], List.getElem_mem hj, List.mem_map.2 ⟨X[j].rs[i], List.getElem_mem hi, rfl⟩⟩
      obtain ⟨q, hq, k1, k2, k3⟩ := find_normal fu hf hok (by omega) hA hmem
      have hqb := hAb D[q] (List.getElem_mem hq)
      have hvb := (items_ok hok hmem).2.2.2
      have ke : D[q].e = X[j].rs[i].1 := congrArg Prod.fst k1
      have kf : D[q].f = (X[j].p.f : Int) := congrArg (fun z : Key => z.2.1) k1
      have km : D[q].m = ((mo X[j].tm + 1 : Nat) : Int) := congrArg (fun z : Key => z.2.2) k1
      have hK := sp_Lookup fu (d + 3) hf D hAx q hq X[j].p hxo.1.1 X[j].tm hxo.2.2 (by rw [hxo.1.2, kf]) km.symm
      rw [ke, show nmC D[q] = [.v (.int .i64 D[q].e), .v (.int .i64 D[q].f), .v (.int .i64 D[q].m), .v (.int .i64 D[q].mean), .v (.int .i64 D[q].sp)] from rfl] at hK
      unfold plc at hK
      dsimp only at k2 k3 hvb
      have hz : (if D[q].mean - X[j].rs[i].2 > X[j].rs[i].2 - D[q].mean then D[q].mean - X[j].rs[i].2 else X[j].rs[i].2 - D[q].mean) ≤ D[q].sp := by split <;> omega
      simp (disch := omega) only [hdt_eq, obs, rC_c, rA_agg, rT_tup, rP_ptr, rW_own, rS_sb, rF_sb, uncV_cons, uncO_cons, nilV_nil, rO_ob, rN_ob, unc_cons, asI_int, asB_bool, asS_string, asSl_sl, asSl_nl, asFn_fn, asP_cp, nrm_sl, nrm_nl, need_true, ct, cf, bd_eq, natD_zero, natD_succ, natD_one, noYl_v, noYl_sl, noYl_nl, noYl_cp, noYl_fn, Bool.and_true, Bool.true_and, Bool.and_self, beqN_self, Bool.not_true, Bool.not_false, Bool.and_false, Bool.false_and, Bool.or_false, Bool.false_or, Bool.or_true, Bool.true_or, wrap_in, dlt_t, dlt_f, dle_t, dle_f, dgt_t, dgt_f, dge_t, dge_f, ibeq_t, ibeq_f, ibne_t, ibne_f, inR_int, beqN_eq, bleN_le, Int.toNat_natCast, Nat.mul_one, Nat.div_one, hat2, rdc, List.cons_append, List.nil_append, hK, List.length_cons, List.length_nil, Nat.zero_add, Nat.reduceAdd, bne_self_eq_false, bs_length, hml]
      rw [iter_runx (fun t : Nat => (bs (mix D (items (X.take j) ++ (itemsR X[j]).take i) ((X[j].rs[i].1, (X[j].p.f : Int), ((mo X[j].tm + 1 : Nat) : Int)), X[j].rs[i].2) t), ((t : Nat) : Int), (X[j].k, X[j].nm, X[j].tm, (X[j].p.f : Int), (X[j].p.a : Int), (X[j].p.b : Int), (X[j].p.c : Int), C.sl X[j].rs.length (fl rdc X[j].rs), ()), (X[j].rs[i].1, X[j].rs[i].2, ()), (D[q].e, D[q].f, D[q].m, D[q].mean, D[q].sp, ()), ())) 0
        (bs (D.map (hits (items (X.take j) ++ (itemsR X[j]).take (i + 1)))), ((D.length : Nat) : Int), (X[j].k, X[j].nm, X[j].tm, (X[j].p.f : Int), (X[j].p.a : Int), (X[j].p.b : Int), (X[j].p.c : Int), C.sl X[j].rs.length (fl rdc X[j].rs), ()), (X[j].rs[i].1, X[j].rs[i].2, ()), (D[q].e, D[q].f, D[q].m, D[q].mean, D[q].sp, ()), ()) D.length ?_ ?_ ?_ (by omega)]
      · simp (disch := omega) only [hdt_eq, obs, rC_c, rA_agg, rT_tup, rP_ptr, rW_own, rS_sb, rF_sb, uncV_cons, uncO_cons, nilV_nil, rO_ob, rN_ob, unc_cons, asI_int, asB_bool, asS_string, asSl_sl, asSl_nl, asFn_fn, asP_cp, nrm_sl, nrm_nl, need_true, ct, cf, bd_eq, natD_zero, natD_succ, natD_one, noYl_v, noYl_sl, noYl_nl, noYl_cp, noYl_fn, Bool.and_true, Bool.true_and, Bool.and_self, beqN_self, Bool.not_true, Bool.not_false, Bool.and_false, Bool.false_and, Bool.or_false, Bool.false_or, Bool.or_true, Bool.true_or, wrap_in, dlt_t, dlt_f, dle_t, dle_f, dgt_t, dgt_f, dge_t, dge_f, ibeq_t, ibeq_f, ibne_t, ibne_f, inR_int, beqN_eq, bleN_le, Nat.mul_one, Nat.div_one, bs_length, hml]
        rfl
      · rw [mix_zero, ke]; rfl
      · intro t ht
        have hat3 := fl_at nmC_length ht
        have hln := mix_length D (items (X.take j) ++ (itemsR X[j]).take i) ((X[j].rs[i].1, (X[j].p.f : Int), ((mo X[j].tm + 1 : Nat) : Int)), X[j].rs[i].2) t
        have hln2 := mix_length D (items (X.take j) ++ (itemsR X[j]).take i) ((X[j].rs[i].1, (X[j].p.f : Int), ((mo X[j].tm + 1 : Nat) : Int)), X[j].rs[i].2) (t + 1)
        have hb := nm_eqb D[t] D[q]
        simp (disch := omega) only [hdt_eq, obs, rC_c, rA_agg, rT_tup, rP_ptr, rW_own, rS_sb, rF_sb, uncV_cons, uncO_cons, nilV_nil, rO_ob, rN_ob, unc_cons, asI_int, asB_bool, asS_string, asSl_sl, asSl_nl, asFn_fn, asP_cp, nrm_sl, nrm_nl, need_true, ct, cf, bd_eq, natD_zero, natD_succ, natD_one, noYl_v, noYl_sl, noYl_nl, noYl_cp, noYl_fn, Bool.and_true, Bool.true_and, Bool.and_self, beqN_self, Bool.not_true, Bool.not_false, Bool.and_false, Bool.false_and, Bool.or_false, Bool.false_or, Bool.or_true, Bool.true_or, wrap_in, dlt_t, dlt_f, dle_t, dle_f, dgt_t, dgt_f, dge_t, dge_f, ibeq_t, ibeq_f, ibne_t, ibne_f, inR_int, beqN_eq, bleN_le, Int.toNat_natCast, Nat.mul_one, Nat.div_one, hat3, nmC, List.cons_append, List.nil_append, hb]
        by_cases htq : D[t] = D[q]
        · rw [decide_eq_true htq]
          cases hs : ((if D[q].mean - X[j].rs[i].2 > X[j].rs[i].2 - D[q].mean then D[q].mean - X[j].rs[i].2 else X[j].rs[i].2 - D[q].mean) == D[q].sp) with
          | true =>
            have hh : hit D[t] ((X[j].rs[i].1, (X[j].p.f : Int), ((mo X[j].tm + 1 : Nat) : Int)), X[j].rs[i].2) = true := by
              unfold hit
              rw [htq, k1]
              simp only [beq_self_eq_true, Bool.true_and]
              exact hs
            have hset := mix_set (I := items (X.take j) ++ (itemsR X[j]).take i) ht hh
            have hput := bs_put (l := mix D (items (X.take j) ++ (itemsR X[j]).take i) ((X[j].rs[i].1, (X[j].p.f : Int), ((mo X[j].tm + 1 : Nat) : Int)), X[j].rs[i].2) t) (k := t) (by omega) true
            rw [hset] at hput
            simp (disch := omega) only [hdt_eq, obs, rC_c, rA_agg, rT_tup, rP_ptr, rW_own, rS_sb, rF_sb, uncV_cons, uncO_cons, nilV_nil, rO_ob, rN_ob, unc_cons, asI_int, asB_bool, asS_string, asSl_sl, asSl_nl, asFn_fn, asP_cp, nrm_sl, nrm_nl, need_true, ct, cf, bd_eq, natD_zero, natD_succ, natD_one, noYl_v, noYl_sl, noYl_nl, noYl_cp, noYl_fn, Bool.and_true, Bool.true_and, Bool.and_self, beqN_self, Bool.not_true, Bool.not_false, Bool.and_false, Bool.false_and, Bool.or_false, Bool.false_or, Bool.or_true, Bool.true_or, wrap_in, dlt_t, dlt_f, dle_t, dle_f, dgt_t, dgt_f, dge_t, dge_f, ibeq_t, ibeq_f, ibne_t, ibne_f, inR_int, beqN_eq, bleN_le, hs, Nat.zero_add, Int.toNat_natCast, hput, bs_length, hln, hln2, Nat.div_one, Nat.mul_one]
            rfl
          | false =>
            have hh : hit D[t] ((X[j].rs[i].1, (X[j].p.f : Int), ((mo X[j].tm + 1 : Nat) : Int)), X[j].rs[i].2) = false := by
              unfold hit
              rw [htq, k1]
              simp only [beq_self_eq_true, Bool.true_and]
              exact hs
            rw [← mix_same ht hh]
            simp (disch := omega) only [hdt_eq, obs, rC_c, rA_agg, rT_tup, rP_ptr, rW_own, rS_sb, rF_sb, uncV_cons, uncO_cons, nilV_nil, rO_ob, rN_ob, unc_cons, asI_int, asB_bool, asS_string, asSl_sl, asSl_nl, asFn_fn, asP_cp, nrm_sl, nrm_nl, need_true, ct, cf, bd_eq, natD_zero, natD_succ, natD_one, noYl_v, noYl_sl, noYl_nl, noYl_cp, noYl_fn, Bool.and_true, Bool.true_and, Bool.and_self, beqN_self, Bool.not_true, Bool.not_false, Bool.and_false, Bool.false_and, Bool.or_false, Bool.false_or, Bool.or_true, Bool.true_or, wrap_in, dlt_t, dlt_f, dle_t, dle_f, dgt_t, dgt_f, dge_t, dge_f, ibeq_t, ibeq_f, ibne_t, ibne_f, inR_int, beqN_eq, bleN_le, hs, bs_length, hln, Nat.div_one, Nat.mul_one]
            rfl
        · have hne : ¬ D[t].key = D[q].key := fun e => htq (by have := key_inj hA.asc ht hq e; subst this; rfl)
          have hh : hit D[t] ((X[j].rs[i].1, (X[j].p.f : Int), ((mo X[j].tm + 1 : Nat) : Int)), X[j].rs[i].2) = false := by
            unfold hit
            rw [k1] at hne
            dsimp only at hne ⊢
            rw [show (((X[j].rs[i].1, (X[j].p.f : Int), ((mo X[j].tm + 1 : Nat) : Int)) : Key) == D[t].key) = false from beq_eq_false_iff_ne.2 fun e => hne e.symm, Bool.false_and]
          rw [decide_eq_false htq, ← mix_same ht hh]
          simp (disch := omega) only [hdt_eq, obs, rC_c, rA_agg, rT_tup, rP_ptr, rW_own, rS_sb, rF_sb, uncV_cons, uncO_cons, nilV_nil, rO_ob, rN_ob, unc_cons, asI_int, asB_bool, asS_string, asSl_sl, asSl_nl, asFn_fn, asP_cp, nrm_sl, nrm_nl, need_true, ct, cf, bd_eq, natD_zero, natD_succ, natD_one, noYl_v, noYl_sl, noYl_nl, noYl_cp, noYl_fn, Bool.and_true, Bool.true_and, Bool.and_self, beqN_self, Bool.not_true, Bool.not_false, Bool.and_false, Bool.false_and, Bool.or_false, Bool.false_or, Bool.or_true, Bool.true_or, wrap_in, dlt_t, dlt_f, dle_t, dle_f, dgt_t, dgt_f, dge_t, dge_f, ibeq_t, ibeq_f, ibne_t, ibne_f, inR_int, beqN_eq, bleN_le, bs_length, hln, Nat.div_one, Nat.mul_one]
          rfl
      · have hln := mix_length D (items (X.take j) ++ (itemsR X[j]).take i) ((X[j].rs[i].1, (X[j].p.f : Int), ((mo X[j].tm + 1 : Nat) : Int)), X[j].rs[i].2) D.length
        simp (disch := omega) only [hdt_eq, obs, rC_c, rA_agg, rT_tup, rP_ptr, rW_own, rS_sb, rF_sb, uncV_cons, uncO_cons, nilV_nil, rO_ob, rN_ob, unc_cons, asI_int, asB_bool, asS_string, asSl_sl, asSl_nl, asFn_fn, asP_cp, nrm_sl, nrm_nl, need_true, ct, cf, bd_eq, natD_zero, natD_succ, natD_one, noYl_v, noYl_sl, noYl_nl, noYl_cp, noYl_fn, Bool.and_true, Bool.true_and, Bool.and_self, beqN_self, Bool.not_true, Bool.not_false, Bool.and_false, Bool.false_and, Bool.or_false, Bool.false_or, Bool.or_true, Bool.true_or, wrap_in, dlt_t, dlt_f, dle_t, dle_f, dgt_t, dgt_f, dge_t, dge_f, ibeq_t, ibeq_f, ibne_t, ibne_f, inR_int, beqN_eq, bleN_le, bs_length, hln, Nat.div_one, Nat.mul_one]
        rw [mix_all, itemsR_take hi, List.append_assoc]
    · rw [items_take hj, show (itemsR X[j]).take X[j].rs.length = itemsR X[j] by rw [← itemsR_length]; exact List.take_length]
      simp (disch := omega) only [hdt_eq, obs, rC_c, rA_agg, rT_tup, rP_ptr, rW_own, rS_sb, rF_sb, uncV_cons, uncO_cons, nilV_nil, rO_ob, rN_ob, unc_cons, asI_int, asB_bool, asS_string, asSl_sl, asSl_nl, asFn_fn, asP_cp, nrm_sl, nrm_nl, need_true, ct, cf, bd_eq, natD_zero, natD_succ, natD_one, noYl_v, noYl_sl, noYl_nl, noYl_cp, noYl_fn, Bool.and_true, Bool.true_and, Bool.and_self, beqN_self, Bool.not_true, Bool.not_false, Bool.and_false, Bool.false_and, Bool.or_false, Bool.false_or, Bool.or_true, Bool.true_or, wrap_in, dlt_t, dlt_f, dle_t, dle_f, dgt_t, dgt_f, dge_t, dge_f, ibeq_t, ibeq_f, ibne_t, ibne_f, inR_int, beqN_eq, bleN_le, bs_length, hml, Nat.div_one, Nat.mul_one]
  · rw [List.take_length]
    simp (disch := omega) only [hdt_eq, obs, rC_c, rA_agg, rT_tup, rP_ptr, rW_own, rS_sb, rF_sb, uncV_cons, uncO_cons, nilV_nil, rO_ob, rN_ob, unc_cons, asI_int, asB_bool, asS_string, asSl_sl, asSl_nl, asFn_fn, asP_cp, nrm_sl, nrm_nl, need_true, ct, cf, bd_eq, natD_zero, natD_succ, natD_one, noYl_v, noYl_sl, noYl_nl, noYl_cp, noYl_fn, Bool.and_true, Bool.true_and, Bool.and_self, beqN_self, Bool.not_true, Bool.not_false, Bool.and_false, Bool.false_and, Bool.or_false, Bool.false_or, Bool.or_true, Bool.true_or, wrap_in, dlt_t, dlt_f, dle_t, dle_f, dgt_t, dgt_f, dge_t, dge_f, ibeq_t, ibeq_f, ibne_t, ibne_f, inR_int, beqN_eq, bleN_le, bs_length, hml, Nat.div_one, Nat.mul_one]
  have htb : List.take D.length (bs (D.map (hits (items X)))) = bs (D.map (hits (items X))) := List.take_of_length_le (by rw [bs_length, hml]; exact Nat.le_refl _)
  simp (disch := omega) only [hdt_eq, obs, rC_c, rA_agg, rT_tup, rP_ptr, rW_own, rS_sb, rF_sb, uncV_cons, uncO_cons, nilV_nil, rO_ob, rN_ob, unc_cons, asI_int, asB_bool, asS_string, asSl_sl, asSl_nl, asFn_fn, asP_cp, nrm_sl, nrm_nl, need_true, ct, cf, bd_eq, natD_zero, natD_succ, natD_one, noYl_v, noYl_sl, noYl_nl, noYl_cp, noYl_fn, Bool.and_true, Bool.true_and, Bool.and_self, beqN_self, Bool.not_true, Bool.not_false, Bool.and_false, Bool.false_and, Bool.or_false, Bool.false_or, Bool.or_true, Bool.true_or, wrap_in, dlt_t, dlt_f, dle_t, dle_f, dgt_t, dgt_f, dge_t, dge_f, ibeq_t, ibeq_f, ibne_t, ibne_f, inR_int, beqN_eq, bleN_le, bs_length, hml, Nat.div_one, Nat.mul_one, Nat.zero_add, htb]
  rw [iter_runx (fun j : Nat => (false, ((j : Nat) : Int), ())) 0 (false, ((D.length : Nat) : Int), ()) D.length ?_ ?_ ?_ (by omega)]
  · have hw := sp_awake fu d hf
    simp only [hdt_eq, obs, rC_c, rA_agg, rT_tup, rP_ptr, rW_own, rS_sb, rF_sb, uncV_cons, uncO_cons, nilV_nil, rO_ob, rN_ob, unc_cons, asI_int, asB_bool, asS_string, asSl_sl, asSl_nl, asFn_fn, asP_cp, nrm_sl, nrm_nl, need_true, ct, cf, bd_eq, natD_zero, natD_succ, natD_one, noYl_v, noYl_sl, noYl_nl, noYl_cp, noYl_fn, Bool.and_true, Bool.true_and, Bool.and_self, beqN_self, Bool.not_true, Bool.not_false, Bool.and_false, Bool.false_and, Bool.or_false, Bool.false_or, Bool.or_true, Bool.true_or, hw]
  · rfl
  · intro j hj
    have hat := bs_at (l := D.map (hits (items X))) (k := j) (by rw [hml]; exact hj)
    have ht : (D.map (hits (items X)))[j]'(by rw [hml]; exact hj) = true := by
      rw [List.getElem_map]; exact all_hit hA (List.getElem_mem hj)
    rw [ht] at hat
    simp (disch := omega) only [hdt_eq, obs, rC_c, rA_agg, rT_tup, rP_ptr, rW_own, rS_sb, rF_sb, uncV_cons, uncO_cons, nilV_nil, rO_ob, rN_ob, unc_cons, asI_int, asB_bool, asS_string, asSl_sl, asSl_nl, asFn_fn, asP_cp, nrm_sl, nrm_nl, need_true, ct, cf, bd_eq, natD_zero, natD_succ, natD_one, noYl_v, noYl_sl, noYl_nl, noYl_cp, noYl_fn, Bool.and_true, Bool.true_and, Bool.and_self, beqN_self, Bool.not_true, Bool.not_false, Bool.and_false, Bool.false_and, Bool.or_false, Bool.false_or, Bool.or_true, Bool.true_or, wrap_in, dlt_t, dlt_f, dle_t, dle_f, dgt_t, dgt_f, dge_t, dge_f, ibeq_t, ibeq_f, ibne_t, ibne_f, inR_int, beqN_eq, bleN_le, bs_length, hml, htb, Nat.div_one, Int.toNat_natCast, Nat.mul_one, hat]
    rfl
  · simp (disch := omega) only [hdt_eq, obs, rC_c, rA_agg, rT_tup, rP_ptr, rW_own, rS_sb, rF_sb, uncV_cons, uncO_cons, nilV_nil, rO_ob, rN_ob, unc_cons, asI_int, asB_bool, asS_string, asSl_sl, asSl_nl, asFn_fn, asP_cp, nrm_sl, nrm_nl, need_true, ct, cf, bd_eq, natD_zero, natD_succ, natD_one, noYl_v, noYl_sl, noYl_nl, noYl_cp, noYl_fn, Bool.and_true, Bool.true_and, Bool.and_self, beqN_self, Bool.not_true, Bool.not_false, Bool.and_false, Bool.false_and, Bool.or_false, Bool.false_or, Bool.or_true, Bool.true_or, wrap_in, dlt_t, dlt_f, dle_t, dle_f, dgt_t, dgt_f, dge_t, dge_f, ibeq_t, ibeq_f, ibne_t, ibne_f, inR_int, beqN_eq, bleN_le, bs_length, hml, htb, Nat.div_one, Nat.mul_one]
end
end Go.Proofs.YtmbgnpgjdhlegaaDoor
