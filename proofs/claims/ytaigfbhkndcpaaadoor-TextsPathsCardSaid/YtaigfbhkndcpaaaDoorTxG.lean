/- Layer 2: the plain law of quotes: the program's answer is the reference's. -/
import Derived.Test.YtaigfbhkndcpaaaDoorTxF
namespace Go.Proofs.YtaigfbhkndcpaaaDoor
open Go Go.Eng
open Go.Eng renaming bs_app → Zaa, bs_size → Zab, tdiv_nn → Zac, tmod_nn → Zad, wrap_u64_id → Zaf, byteCells_len → Zag, bstrC_some → Zah, u8s_nil → Zai, u8s_i → Zaj, ofNat_toNat → Zak, ofNat_toNat' → Zal, u8s_byteCells → Zam, rounds_s → Zao, roundK_n → Zap, roundK_x → Zaq, roundK_r → Zar, invK_x → Zas, invK_r → Zat, and_32 → Zau, and_32' → Zav, or_32 → Zaw, or_32' → Zax, fdiv_32 → Zay, in_i64 → Zaz, in_u64 → Za0, in_u8 → Za1, svc_skip → Za2, svc_reg → Za3, svc_seq → Za4, svc_cond → Za5, svc_block → Za6, svc_loop → Za7, svc_exit → Za8, svc_ret → Za9, seqK_n → Zba, seqK_x → Zbb, seqK_r → Zbc, blockK_n → Zbd, blockK_x → Zbe, blockK_r → Zbf, nK_eq → Zbg, fin_n → Zbh, fin_r → Zbi, svL_nil → Zbj, svL_cons → Zbk, put_none → Zbl, put_nil → Zbm, put_cons → Zbn, qend_true → Zbo, qend_eq → Zbp, stp_mv → Zbq, stp_pick → Zbr, stp_bin → Zbs, stp_beq → Zbt, stp_un → Zbu, stp_conv → Zbv, stp_add → Zbw, stp_fld → Zbx, stp_ixA → Zby, stp_ixS → Zbz, stp_ixStr → Zb0, stp_ixAgg → Zb1, stp_ld → Zb2, stp_ext → Zb3, stp_lenStr → Zb4, stp_lenSl → Zb5, stp_mkF → Zb6, stp_build → Zb7, stp_slStr → Zb8, stp_slS → Zb9, stp_slA → Zca, stp_mx → Zcb, stp_bstr → Zcc, stp_call_q → Zcd, stp_call_e → Zce, stp_callV_q → Zcf, stp_callV_e → Zcg, stp_alloc → Zch, stp_box → Zci, stp_bslice → Zcj, stp_store → Zck, stp_sbytes → Zcl, stp_xcall → Zcm, stp_ef → Zcn, stp_nck → Zco, nckV_of → Zcp, rowsOf_sl → Zcq, rowsOf_str → Zcr, rowsOf_nil → Zcs, blockK_x' → Zct, put_nil' → Zcu, bindO_some → Zcv, bindO_none → Zcw, bindG_eq → Zcx, owe_nil → Zcy, owe_cons → Zcz, conj_true → Zc0, conj_false → Zc1, chain_none → Zc2, rd_c → Zc3, rd_t0 → Zc4, lkU_cons → Zc5, lkU_nil → Zc6, lkC_cons → Zc7, lkC_nil → Zc8, lkIf_t → Zc9, lkIf_f → Zda, rd_tc → Zdb, rdC_some → Zdc, rdC_none → Zdd, rds_cons → Zde, rds_nil → Zdf, rdsC_some → Zdg, chain_some → Zdh, resL_t → Zdi, resL_nil → Zdj, resL_cell → Zdk, cellO_of → Zdl, aggO_t → Zdm, aggO_f → Zdn, fillL_cons → Zdo, fillL_nil → Zdp, fillD_of → Zdq, fillC_agg → Zdr, fillC_none → Zds, fillC_int → Zdt, fillC_bool → Zdu, fillC_string → Zdv, fillC_slice → Zdw, fillC_pointer → Zdx, fillC_func → Zdy, fillC_map → Zdz, lk_eq → Zd4, lk_ne → Zd5, upd_eq → Zd6, upd_ne → Zd7, upd_nil → Zd8, rdObj_own → Zd9, rdObj_base → Zea, cellsAt_O → Zeb, take_bytes → Zec, cellsO_of → Zef, stCells_O → Zeg, stO_of → Zeh, memG_cons → Zei, memG_nil → Zej, subG → Zek, freeG_cons → Zel, freeG_nil → Zem, cfree_cons → Zen, cfree_nil → Zeo, lit → Zep, isPar → Zeq, boolO_of → Zer, ptrO_of → Zes, strO_of → Zet, slO_of → Zeu, pickO_bb → Zev, pickO_of → Zew, beqV_of → Zex, unV_neg → Zey, unV_not → Zez, convV_of → Ze0, addV_of → Ze1, fldV_of → Ze2, ixAV_of → Ze3, ixSV_of → Ze4, ixStrV_of → Ze5, ixAggV_of → Ze6, extV_of → Ze7, lenStrV_of → Ze8, lenSlV_of → Ze9, mxV_of → Zfa, ldV_of → Zfb, ldC_agg → Zfc, ldC_one → Zfd, bstrV_nil → Zfe, bstrV_of → Zff, binq_add → Zfg, binq_sub → Zfh, binq_mul → Zfi, binq_eql → Zfj, binq_neq → Zfk, binq_lss → Zfl, binq_leq → Zfm, binq_gtr → Zfn, binq_geq → Zfo, binq_quo → Zfp, binq_rem → Zfq, binq_and_u64 → Zfr, binq_or_u64 → Zfs, binq_shl_u64 → Zft, binq_shr_u64 → Zfu, binq_and_i64 → Zfv, binq_or_i64 → Zfw, binq_shl_i64 → Zfx, binq_shr_i64 → Zfy, binq_and_u8 → Zfz, binq_or_u8 → Zf0, binq_shl_u8 → Zf1, binq_shr_u8 → Zf2, binq_sadd → Zf3, binq_seql → Zf4, binq_sneq → Zf5, binq_slss → Zf6, binq_sleq → Zf7, binq_sgtr → Zf8, binq_sgeq → Zf9, rdB_none → Zga, rdB_some → Zgb, bound_of → Zgc, sstrV_eq → Zgd, sslV_eq → Zge, sarV_eq → Zgf, numb → Zgg, Wf → Zgh, resV → Zgi, oneCell → Zgj, isB → Zgk, asB → Zgl, cond_tt → Zgm, cond_ff → Zgn, bs_len → Zh0, bs_list → Zh1
open Int renaming reduceEq → Zae, cast_ofNat_Int → Zd0, reduceToNat → Zhr, toNat_zero → Zhs, toNat_one → Zht, reduceLE → Zhu, reduceLT → Zhv, reduceAdd → Zhw, reduceSub → Zhx, reduceNeg → Zhy, zero_add → Zhz, reducePow → Zif, reduceNegSucc → Zih
open UInt8 renaming reduceOfNat → Zan
open List renaming toList_toArray → Zd1, length_append → Zed, cons_append → Zgs, nil_append → Zgt, length_cons → Zgu, length_nil → Zgv, drop_zero → Zgw, drop_succ_cons → Zgx, take_succ_cons → Zgy, take_zero → Zgz, drop_nil → Zg0, take_nil → Zg1, append_nil → Zg2, all_cons → Zg3, all_nil → Zg4, isEmpty_cons → Zg5, size_toArray → Zg6, getElem?_toArray → Zg7, getElem?_cons_zero → Zg8, getElem?_cons_succ → Zg9, getD_cons_zero → Zha, getD_cons_succ → Zhb, mapM_cons → Zhc, mapM_nil → Zhd
open Option renaming getD_some → Zd2, getD_none → Zd3, map_some → Zgo, map_none → Zgp, bind_some → Zgq, bind_none → Zgr
open Nat renaming le_add_right → Zee, reduceAdd → Zhf, reduceMul → Zhg, reduceMod → Zhh, reduceDiv → Zhi, reduceEqDiff → Zhj, reduceBEq → Zhk, reduceLeDiff → Zhl, reduceSub → Zhm, zero_add → Zhn, add_zero → Zho, le_refl → Zhp, zero_le → Zhq, reducePow → Zie, reduceLT → Zig
open Go.Value renaming cells → Zhe
open Bool renaming and_true → Zh2, true_and → Zh3, and_self → Zh4, not_true → Zh5, not_false → Zh6, and_false → Zh7, or_false → Zh8, or_true → Zh9, true_or → Zia, false_or → Zib, false_and → Zic, false_eq_true → Zid
set_option linter.unusedSimpArgs false
set_option linter.unusedVariables false
set_option maxRecDepth 20000

theorem all_u8 {p : UInt8 → Prop} (h : ∀ n : Nat, n < 256 → p (UInt8.ofNat n)) (c : UInt8) : p c := by
  have := h c.toNat (u8_lt c)
  rwa [ofNat_toNat'] at this
theorem hx2_hex : ∀ c : UInt8, hx2 (hexL.getD (c.toNat / 16) 0) (hexL.getD (c.toNat % 16) 0) = c :=
  all_u8 (by decide +kernel)
theorem q1_cases (c : UInt8) : (q1 c = [c] ∧ c ≠ 92) ∨ (q1 c = [92, c] ∧ (c = 34 ∨ c = 92)) ∨ q1 c = [92, 120, hexL.getD (c.toNat / 16) 0, hexL.getD (c.toNat % 16) 0] := by
  unfold q1
  split
  · rename_i h
    refine .inl ⟨rfl, fun e => ?_⟩
    subst e; revert h; decide
  · split
    · rename_i h
      refine .inr (.inl ⟨rfl, ?_⟩)
      simp only [Bool.or_eq_true, beq_iff_eq] at h
      rcases h with h | h
      · exact .inl (UInt8.toNat_inj.mp (by show c.toNat = 34; omega))
      · exact .inr (UInt8.toNat_inj.mp (by show c.toNat = 92; omega))
    · exact .inr (.inr rfl)
theorem stepU_q1 (c : UInt8) (t : List UInt8) : stepU (q1 c ++ t) = (c, (q1 c).length) := by
  rcases q1_cases c with ⟨h, h2⟩ | ⟨h, h2⟩ | h
  · rw [h]
    show stepU (c :: t) = (c, 1)
    rw [stepU_cons, if_neg]
    simp only [Bool.and_eq_true, beq_iff_eq]
    intro hh
    exact h2 (UInt8.toNat_inj.mp (by show c.toNat = 92; omega))
  · rw [h]
    show stepU (92 :: c :: t) = (c, 2)
    rw [stepU_cons, if_pos (by simp; omega), if_neg]
    · rfl
    · simp only [Bool.and_eq_true, beq_iff_eq, List.getD_cons_zero]
      rintro ⟨h3, -⟩
      rcases h2 with rfl | rfl <;> revert h3 <;> decide
  · rw [h]
    show stepU (92 :: 120 :: hexL.getD (c.toNat / 16) 0 :: hexL.getD (c.toNat % 16) 0 :: t) = (c, 4)
    rw [stepU_cons, if_pos (by simp; omega), if_pos (by simp; omega)]
    show (hx2 (hexL.getD (c.toNat / 16) 0) (hexL.getD (c.toNat % 16) 0), 4) = _
    rw [hx2_hex]
theorem q1_ne (c : UInt8) : q1 c ≠ [] := by
  rcases q1_cases c with ⟨h, -⟩ | ⟨h, -⟩ | h <;> rw [h] <;> simp
theorem unqL_all : ∀ (o : List UInt8) (n : Nat), (o.flatMap q1).length ≤ n → unqL n (o.flatMap q1) = some o
  | [], n, _ => by cases n <;> rfl
  | c :: o, n, hn => by
    simp only [List.flatMap_cons] at hn ⊢
    obtain ⟨x, r, hx⟩ : ∃ x r, q1 c ++ o.flatMap q1 = x :: r := by
      cases h : q1 c ++ o.flatMap q1 with
      | nil => exact absurd (List.append_eq_nil_iff.mp h).1 (q1_ne c)
      | cons x r => exact ⟨x, r, rfl⟩
    have hlen : 1 ≤ (q1 c).length := by
      cases h : q1 c with
      | nil => exact absurd h (q1_ne c)
      | cons => simp
    obtain ⟨n, rfl⟩ : ∃ m, n = m + 1 := ⟨n - 1, by rw [List.length_append] at hn; omega⟩
    have hst := stepU_q1 c (o.flatMap q1)
    rw [hx] at hst ⊢
    rw [unqL, hst]
    simp only
    rw [← hx, List.take_left' rfl, List.drop_left' rfl, if_pos rfl, unqL_all o n (by rw [List.length_append] at hn; omega)]
    rfl
theorem unqL_sound : ∀ (n : Nat) (r o : List UInt8), unqL n r = some o → r = o.flatMap q1
  | n, [], o, h => by
    have : o = [] := by cases n <;> simp [unqL] at h <;> exact h
    subst this; rfl
  | 0, _ :: _, o, h => by simp [unqL] at h
  | n + 1, c :: r, o, h => by
    rw [unqL] at h
    split at h
    · rename_i hq
      simp only [Option.map_eq_some_iff] at h
      obtain ⟨o', h1, rfl⟩ := h
      have := unqL_sound n _ o' h1
      rw [List.flatMap_cons, hq, ← this, List.take_append_drop]
    · cases h
theorem unquote_quote (o : List UInt8) : unquote (quote o) = some o := by
  unfold unquote quote
  have e1 : (34 :: (o.flatMap q1 ++ [34])).length = (o.flatMap q1).length + 2 := by simp
  have e2 : (34 :: (o.flatMap q1 ++ [34])).getD ((o.flatMap q1).length + 2 - 1) 0 = 34 := by
    rw [show (o.flatMap q1).length + 2 - 1 = (o.flatMap q1).length + 1 by omega, List.getD_cons_succ, List.getD_eq_getElem?_getD]
    simp
  have e3 : ((34 :: (o.flatMap q1 ++ [34])).take ((o.flatMap q1).length + 2 - 1)).drop 1 = o.flatMap q1 := by
    rw [show (o.flatMap q1).length + 2 - 1 = (o.flatMap q1).length + 1 by omega, List.take_succ_cons, List.drop_succ_cons, List.drop_zero, List.take_left' rfl]
  rw [e1, e2, e3, if_neg]
  · exact unqL_all o _ (by omega)
  · simp only [Bool.or_eq_true, decide_eq_true_eq, bne_iff_ne, not_or]
    exact ⟨⟨by omega, by simp⟩, by simp⟩
theorem unquote_sound {s o : List UInt8} (h : unquote s = some o) : s = quote o := by
  unfold unquote at h
  split at h
  · cases h
  · rename_i hc
    have := unqL_sound _ _ _ h
    simp only [Bool.or_eq_true, decide_eq_true_eq, bne_iff_ne, not_or, Decidable.not_not] at hc
    obtain ⟨⟨h1, h2⟩, h3⟩ := hc
    unfold quote
    rw [← this]
    have a1 : s.getD 0 0 = 34 := UInt8.toNat_inj.mp (by show _ = 34; omega)
    have a2 : s.getD (s.length - 1) 0 = 34 := UInt8.toNat_inj.mp (by show _ = 34; omega)
    have hs : s = s.take (s.length - 1) ++ [s.getD (s.length - 1) 0] := by
      rw [← take_snocB (by omega), show s.length - 1 + 1 = s.length by omega, List.take_length]
    cases s with
    | nil => simp at h1
    | cons x r =>
      rw [List.getD_cons_zero] at a1
      subst a1
      rw [a2] at hs
      have hl : (34 :: r).length - 1 = r.length := by simp
      rw [hl] at hs ⊢
      cases r with
      | nil => simp at h1
      | cons y r' =>
        rw [List.length_cons, List.take_succ_cons] at hs ⊢
        rw [List.drop_succ_cons, List.drop_zero, ← List.cons_append]; exact hs
theorem hex_idx : ∀ k : Nat, k < 16 → hexL.idxOf (hexL.getD k 0) = k := by decide +kernel
theorem stepR_q1 (c : UInt8) (t : List UInt8) (ht : t ≠ []) : stepR (q1 c ++ t) = (c, (q1 c).length) := by
  have hl : 1 ≤ t.length := List.length_pos_iff.mpr ht
  unfold stepR
  rcases q1_cases c with ⟨h, h2⟩ | ⟨h, h2⟩ | h
  · have hne : ((c.toNat : Int) == 92) = false := by
      apply beq_eq_false_iff_ne.mpr
      intro hh
      exact h2 (UInt8.toNat_inj.mp (by show c.toNat = 92; omega))
    rw [h]
    simp only [List.cons_append, List.nil_append, List.getD_cons_zero, hne, Bool.false_and, Bool.false_eq_true, if_false]
    rfl
  · rw [h, if_pos]
    · rfl
    · rcases h2 with rfl | rfl <;> simp <;> omega
  · have hc := u8_lt c
    have i1 := hex_idx (c.toNat / 16) (by omega)
    have i2 := hex_idx (c.toNat % 16) (by omega)
    rw [h]
    have g0 : ([92, 120, hexL.getD (c.toNat / 16) 0, hexL.getD (c.toNat % 16) 0] ++ t).getD 0 0 = 92 := rfl
    have g1 : ([92, 120, hexL.getD (c.toNat / 16) 0, hexL.getD (c.toNat % 16) 0] ++ t).getD 1 0 = 120 := rfl
    have g2 : ([92, 120, hexL.getD (c.toNat / 16) 0, hexL.getD (c.toNat % 16) 0] ++ t).getD 2 0 = hexL.getD (c.toNat / 16) 0 := rfl
    have g3 : ([92, 120, hexL.getD (c.toNat / 16) 0, hexL.getD (c.toNat % 16) 0] ++ t).getD 3 0 = hexL.getD (c.toNat % 16) 0 := rfl
    rw [g0, g1, g2, g3, i1, i2, if_neg, if_pos]
    · have : 16 * (c.toNat / 16) + c.toNat % 16 = c.toNat := by omega
      rw [this, ofNat_toNat']; rfl
    · simp only [List.length_append, List.length_cons, List.length_nil, Bool.and_eq_true, decide_eq_true_eq]
      refine ⟨⟨⟨⟨rfl, by omega⟩, rfl⟩, by omega⟩, by omega⟩
    · simp
theorem decR_all : ∀ (o : List UInt8) (n : Nat), (o.flatMap q1).length + 1 ≤ n → decR n (o.flatMap q1 ++ [34]) = o
  | [], n, _ => by
    cases n with
    | zero => rfl
    | succ n => rw [decR, if_pos (by simp)]
  | c :: o, n, hn => by
    have hlen : 1 ≤ (q1 c).length := by
      cases h : q1 c with
      | nil => exact absurd h (q1_ne c)
      | cons => simp
    simp only [List.flatMap_cons, List.append_assoc, List.length_append] at hn ⊢
    obtain ⟨n, rfl⟩ : ∃ m, n = m + 1 := ⟨n - 1, by omega⟩
    rw [decR, if_neg (by simp only [List.length_append, List.length_cons]; omega), stepR_q1 c _ (by simp)]
    simp only
    rw [List.drop_left' rfl, decR_all o n (by omega)]
theorem unquote_ref (s : List UInt8) : unquote s = refU s := by
  unfold refU
  have key : ∀ o, s = quote o → decR s.length (s.drop 1) = o := fun o ho => by
    subst ho
    unfold quote
    rw [List.drop_succ_cons, List.drop_zero]
    exact decR_all o _ (by simp)
  split
  · rename_i h
    rw [← h, unquote_quote, h]
  · rename_i h
    cases hu : unquote s with
    | none => rfl
    | some o =>
      have hs := unquote_sound hu
      exact absurd (by rw [key o hs]; exact hs.symm) h
end Go.Proofs.YtaigfbhkndcpaaaDoor
