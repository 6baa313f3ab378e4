/-
  Contract of Wrap of the reference.
  Conditions: none.
-/
import Derived.Test.YtckmebfgianeoaaDoorWalkRw
import Derived.Test.YtckmebfgianeoaaDoorWalkWa
namespace Go.Proofs.YtckmebfgianeoaaDoor
open Go.RowKit Go.Lib
set_option linter.unusedSimpArgs false
set_option linter.unusedVariables false

theorem wordsG_sum : ∀ (c l : List UInt8), ((wordsG c l).map List.length).sum ≤ c.length + l.length
  | c, [] => by
    rw [wordsG]
    split <;> simp
  | c, x :: r => by
    have h1 := wordsG_sum [] r
    have h2 := wordsG_sum (c ++ [x]) r
    rw [wordsG]
    split
    · split <;> simp at * <;> omega
    · simp at *; omega
theorem wordsG_ne : ∀ (c l : List UInt8), ∀ x ∈ wordsG c l, x ≠ []
  | c, [], x, h => by
    rw [wordsG] at h
    split at h
    · cases h
    · rename_i hc
      rw [List.mem_singleton.1 h]; exact hc
  | c, y :: r, x, h => by
    rw [wordsG] at h
    split at h
    · split at h
      · exact wordsG_ne [] r x h
      · rename_i hc
        rcases List.mem_cons.1 h with rfl | h
        · exact hc
        · exact wordsG_ne [] r x h
    · exact wordsG_ne (c ++ [y]) r x h
theorem toBa_size (l : List UInt8) : (toBa l).size = l.length := by
  rw [← ba_len]; unfold toBa; simp
theorem toBa_data (l : List UInt8) : (toBa l).data.toList = l := by unfold toBa; simp

set_option maxRecDepth 20000 in
set_option maxHeartbeats 4000000 in
theorem rwrap_any (s : ByteArray) (k : Int) (w : World) (hs : s.size ≤ 1900000) (hk : -9223372036854775808 ≤ k ∧ k ≤ 9223372036854775807) :
    Calls Tryd.prog 20 #[.string s, .int .i64 k] w fun e w' => ∃ v, e = .returned v ∧ Gr w w' ∧ StrsR w' v (wrapP k s) := by
  unfold wrapP
  by_cases k1 : k < 1
  · have q1 : decide (k < 1) = true := decide_eq_true k1
    rw [if_pos k1]
    go_enter Tryd.func20, Tryd.ntmps20
    go_wp2
    go_ret
    exact ⟨_, rfl, (by repeat (first | with_reducible exact Gr.refl _ | with_reducible assumption | refine Gr.setCell ?_ (by first | omega | (simp; done) | (simp; omega)) _ | refine Gr.alloc ?_ _ | refine Gr.drew ?_ | refine Gr.drewN ?_ _ | refine Gr.trans ?_ (by with_reducible assumption))), StrsR.nil _⟩
  rw [if_neg k1]
  have q1 : decide (k < 1) = false := decide_eq_false k1
  by_cases k2 : (s.size : Int) ≤ k
  · have q2 : decide ((s.size : Int) ≤ k) = true := decide_eq_true k2
    rw [if_pos k2]
    go_enter Tryd.func20, Tryd.ntmps20
    go_wp2
    go_ret
    exact ⟨_, rfl, (by repeat (first | with_reducible exact Gr.refl _ | with_reducible assumption | refine Gr.setCell ?_ (by first | omega | (simp; done) | (simp; omega)) _ | refine Gr.alloc ?_ _ | refine Gr.drew ?_ | refine Gr.drewN ?_ _ | refine Gr.trans ?_ (by with_reducible assumption))), Rd.new w #[.string s] 9 1 1 1 rfl⟩
  rw [if_neg k2]
  have q2 : decide ((s.size : Int) ≤ k) = false := decide_eq_false k2
  have HWd : Hid (∀ w', Calls Tryd.prog 43 #[.string s] w' fun e w'' => ∃ v, e = .returned v ∧ Gr w' w'' ∧ StrsR w'' v (wordsP s)) := fun w' => words_any s w' (by omega)
  obtain ⟨is, his, hs0, hs1, hs2⟩ := info_parts infoStr
  obtain ⟨kn, hkn, rfl⟩ : ∃ kn : Nat, 1 ≤ kn ∧ k = kn := ⟨k.toNat, by omega, by omega⟩
  obtain ⟨R, hR⟩ : ∃ R, wrapM (kn : Int).toNat s.data.toList = R := ⟨_, rfl⟩
  rw [hR]
  have hR := Lib.hid hR
  go_enter Tryd.func20, Tryd.ntmps20
  go_wp2_with (go_at_call 43; (with_reducible refine (HWd.out _).mono ?_); rintro e w1 ⟨wv, rfl, hg1, hwv⟩)
  obtain ⟨ws, hws⟩ : ∃ ws, wordsG [] s.data.toList = ws := ⟨_, rfl⟩
  have hsum := wordsG_sum [] s.data.toList
  have hne := wordsG_ne [] s.data.toList
  unfold wordsP at hwv
  have hR := hR.out
  rw [show ((kn : Int)).toNat = kn by omega] at hR
  unfold wrapM at hR
  simp only at hR
  rw [hws] at hsum hne hwv hR
  rw [ba_len, List.length_nil, Nat.zero_add] at hsum
  have hln : ws.length ≤ s.size + 1 := by rw [← hws, ← ba_len s]; exact wordsG_len _ _
  obtain ⟨pw, cw, rfl, hwh⟩ := hwv.shape
  rw [List.length_map]
  have hwh := Lib.hid hwh
  have hne := Lib.hid hne
  have HS : Hid (endL (((ws.drop 0).foldl (addW kn) ([], [])).1) (((ws.drop 0).foldl (addW kn) ([], [])).2) = R) := hR
  have hws0 : ((ws.drop 0).map List.length).sum ≤ s.size := hsum
  clear hws hsum hwv hR HWd
  go_loopw [5, 6, 8] (fun o c i wr => ∃ (ls : List ByteArray) (cur : List UInt8) (kk : Nat), c = .string (toBa cur) ∧ i = .int .i64 kk ∧ kk ≤ ws.length ∧ Gr w wr ∧ Gr w1 wr ∧ StrsO w1.heap.size 9 wr o ls ∧ ls.length + cur.length + 2 * ((ws.drop kk).map List.length).sum ≤ 2 * s.size ∧ Hid (endL (((ws.drop kk).foldl (addW kn) (ls, cur)).1) (((ws.drop kk).foldl (addW kn) (ls, cur)).2) = R)) (fun _ _ i _ => ws.length - (RowKit.intOf i).toNat)
  case atStart => exact ⟨[], [], 0, rfl, rfl, Nat.zero_le _, hg1, Gr.refl _, StrsO.nil _ _ _, by simp at *; omega, HS⟩
  case round =>
    obtain ⟨ls, cur, kk, rfl, rfl, h1, hg, hgw, hO, hln2, hno⟩ := hrel
    clear HS hws0
    by_cases c1 : kk < ws.length
    · have q3 : decide (kk < ws.length) = true := decide_eq_true c1
      rcases hwh.out with h | ⟨b, o, rfl, hb, hcell⟩
      · rw [List.length_map] at h; omega
      have hc0 := hcell kk (by simpa using c1)
      rw [List.getElem_map] at hc0
      have hc1 := (hgw.cells.1 b _ hb).trans hc0
      have hx1 : b < wr.heap.size := Nat.lt_of_lt_of_le hb hgw.size
      have hwe := hne.out _ (List.getElem_mem c1)
      have hd := hno.out
      rw [List.drop_eq_getElem_cons c1, List.foldl_cons] at hd
      rw [List.drop_eq_getElem_cons c1, List.map_cons, List.sum_cons] at hln2
      generalize ws[kk] = wd at hc0 hc1 hwe hd hln2
      clear hcell
      have hts := toBa_size wd
      have htc := toBa_size cur
      have htd := Lib.hid (toBa_data wd)
      have hsz := hg.size
      have hsz1 := hgw.size
      have hz01 := hg1.size
      have hge := own_ge hO
      obtain ⟨po, co, rfl⟩ := own_shape hO
      have hO := Lib.hid hO
      have hln3 := addW_len kn hkn ls cur wd hwe
      obtain ⟨E1, E2, hE⟩ : ∃ E1 E2, addW kn (ls, cur) wd = (E1, E2) := ⟨_, _, rfl⟩
      rw [hE] at hd hln3
      simp only at hln3
      have hd := Lib.hid hd
      have hE := Lib.hid hE
      clear hno hc0
      by_cases d0 : cur ≠ [] ∧ cur.length + 1 + wd.length ≤ kn
      · obtain ⟨d1, d2⟩ := d0
        have hA : Hid (toBa cur ++ (⟨#[32]⟩ : ByteArray) ++ toBa wd = toBa E2 ∧ ls = E1) := by
          have := hE.out
          unfold addW at this
          rw [if_pos ⟨d1, d2⟩] at this
          injection this with h1 h2
          refine Lib.hid ⟨?_, h1⟩
          apply ba_ext
          rw [toBa_data, ← h2]
          simp [toBa]
        have g1 : (toBa cur).toList.isEmpty = false := by
          rw [ByteArray.toList_eq, toBa_data]
          cases cur with
          | nil => exact absurd rfl d1
          | cons _ _ => rfl
        have g2 : ¬ (toBa cur).toList = [] := by rw [ByteArray.toList_eq, toBa_data]; exact d1
        have g3 : decide (wd.length ≤ kn) = true := decide_eq_true (by omega)
        have g4 : decide ((cur.length : Int) + 1 + wd.length ≤ kn) = true := decide_eq_true (by omega)
        clear hE d1
        generalize hgB : toBa wd = wb at *
        generalize hgC : toBa cur = cb at *
        go_wp2
        refine ⟨⟨ls, E2, kk + 1, by rw [hA.out.1], rfl, by omega, hg, hgw, hO.out, ?_, ?_⟩, by simp [RowKit.intOf]; omega⟩
        · rw [hA.out.2]; omega
        · rw [hA.out.2]; exact hd
      · have hB : Hid (endL ls cur ++ (chop kn wd.length wd).1 = E1 ∧ (chop kn wd.length wd).2 = E2) := by
          have := hE.out
          unfold addW at this
          rw [if_neg d0] at this
          injection this with h1 h2
          exact Lib.hid ⟨h1, h2⟩
        have hq : (cur ≠ [] ∧ kn < wd.length) ∨ (cur ≠ [] ∧ wd.length ≤ kn ∧ ¬ cur.length + 1 + wd.length ≤ kn) ∨ cur = [] := by
          by_cases e1 : cur = []
          · exact .inr (.inr e1)
          · by_cases e2 : wd.length ≤ kn
            · exact .inr (.inl ⟨e1, e2, fun h => d0 ⟨e1, h⟩⟩)
            · exact .inl ⟨e1, by omega⟩
        clear d0 hE
        rcases hq with ⟨d1, d2⟩ | ⟨d1, d2, d3⟩ | d1
        · have g1 : (toBa cur).toList.isEmpty = false := by
            rw [ByteArray.toList_eq, toBa_data]
            cases cur with
            | nil => exact absurd rfl d1
            | cons _ _ => rfl
          have g2 : ¬ (toBa cur).toList = [] := by rw [ByteArray.toList_eq, toBa_data]; exact d1
          have hB' : Hid ((ls ++ [toBa cur]) ++ (chop kn wd.length wd).1 = E1 ∧ (chop kn wd.length wd).2 = E2) := by
            have := hB.out
            unfold endL at this
            rw [if_neg d1] at this
            exact Lib.hid this
          have g3 : decide (wd.length ≤ kn) = false := decide_eq_false (by omega)
          have hcp : 0 < cur.length := List.length_pos_iff.2 d1
          clear hB d1
          generalize hgB : toBa wd = wb at *
          generalize hgC : toBa cur = cb at *
          go_wp2_with (at_builtin; refine wpList_append_rd rfl (.tmp 54) (.tmp 56) 35 rfl w1.heap.size 9 is (.string ByteArray.empty) 1 16 (by kernel_rfl) his hs0 hs1 hs2 rfl (by decide) (.slice po ls.length co) ls.length (ls.map Value.string) rfl (World.ownsRow.alloc hO.out _) _ 1 [.string cb] rfl (Rd.new wr #[.string cb] 9 1 1 1 rfl) ?_ ?_ ?_ ?_ ?_; (· intro u hu; simp at hu; subst hu; rfl); (· unfold maxLen; omega); (· omega); (· simp; omega); intro lv2 w2 hown2 hgrow2)
          have hg2 : Gr w w2 := (hg.alloc _).grown hgrow2 (fun k hk => by have := hge k hk; omega)
          have hgwA : Gr w1 w2 := (hgw.alloc _).grown hgrow2 (fun k hk => by have := hge k hk; omega)
          have hO2 : StrsO w1.heap.size 9 w2 lv2 (ls ++ [cb]) := by unfold StrsO; rw [List.map_append, List.length_append]; exact hown2
          have hl2 : (ls ++ [cb]).length + wd.length ≤ 3 * s.size + 10 := by rw [List.length_append]; show _ + 1 + _ ≤ _; omega
          have hch : Hid (∃ f, wb.size ≤ f ∧ (ls ++ [cb]) ++ (chop kn f wb.data.toList).1 = E1 ∧ (chop kn f wb.data.toList).2 = E2) := ⟨wd.length, by rw [hts]; exact Nat.le_refl _, by rw [htd.out]; exact hB'.out.1, by rw [htd.out]; exact hB'.out.2⟩
          generalize ls ++ [cb] = LS at hO2 hl2 hch
          clear hown2 hgrow2
          go_loopw [5, 9] (fun o v wr => ∃ (t : ByteArray) (ls' : List ByteArray), v = .string t ∧ Gr w wr ∧ Gr w1 wr ∧ StrsO w1.heap.size 9 wr o ls' ∧ ls'.length + t.size ≤ 3 * s.size + 10 ∧ Hid (∃ f, t.size ≤ f ∧ ls' ++ (chop kn f t.data.toList).1 = E1 ∧ (chop kn f t.data.toList).2 = E2)) (fun _ v _ => strLen v)
          case atStart => exact ⟨wb, LS, rfl, hg2, hgwA, hO2, by omega, hch⟩
          case round =>
            obtain ⟨t, ls', rfl, hg', hgw', hO', hln', hch'⟩ := hrel
            clear hch hO2 hg2
            by_cases g : kn < t.size
            · have g7 : decide (kn < t.size) = true := decide_eq_true g
              obtain ⟨p9, c9, rfl⟩ := own_shape hO'
              have hge' := own_ge hO'
              have hsz' := hg'.size
              have hsz1' := hgw'.size
              have hO' := Lib.hid hO'
              go_wp2_with (at_builtin; refine wpList_append_rd rfl (.tmp 62) (.tmp 66) 35 rfl w1.heap.size 9 is (.string ByteArray.empty) 1 16 (by kernel_rfl) his hs0 hs1 hs2 rfl (by decide) (.slice p9 ls'.length c9) ls'.length (ls'.map Value.string) rfl (World.ownsRow.alloc hO'.out _) _ 1 [.string (t.extract 0 kn)] rfl (Rd.new wr #[.string (t.extract 0 kn)] 9 1 1 1 rfl) ?_ ?_ ?_ ?_ ?_; (· intro u hu; simp at hu; subst hu; rfl); (· unfold maxLen; omega); (· omega); (· simp; omega); intro lv3 w3 hown3 hgrow3)
              have hg3 : Gr w w3 := (hg'.alloc _).grown hgrow3 (fun k hk => by have := hge' k hk; omega)
              have hgw3 : Gr w1 w3 := (hgw'.alloc _).grown hgrow3 (fun k hk => by have := hge' k hk; omega)
              have hO3 : StrsO w1.heap.size 9 w3 lv3 (ls' ++ [t.extract 0 kn]) := by unfold StrsO; rw [List.map_append, List.length_append]; exact hown3
              have hz1 : (t.extract kn t.size).size = t.size - kn := by rw [← ba_len, ba_dropE, List.length_drop, ba_len]
              have hch2 : Hid (∃ f, (t.extract kn t.size).size ≤ f ∧ (ls' ++ [t.extract 0 kn]) ++ (chop kn f (t.extract kn t.size).data.toList).1 = E1 ∧ (chop kn f (t.extract kn t.size).data.toList).2 = E2) := by
                obtain ⟨f, h1, h2, h3⟩ := hch'.out
                obtain ⟨f, rfl⟩ : ∃ f', f = f' + 1 := ⟨f - 1, by omega⟩
                rw [chop_step _ _ _ (by rw [ba_len]; exact g)] at h2 h3
                refine ⟨f, by rw [hz1]; omega, ?_, ?_⟩
                · rw [ba_dropE, List.append_assoc, ba_take]
                  exact h2
                · rw [ba_dropE]
                  exact h3
              clear hown3 hgrow3 hch'
              exact ⟨⟨_, _, rfl, hg3, hgw3, hO3, by simp only [List.length_append, List.length_singleton, hz1]; omega, hch2⟩, by show (t.extract kn t.size).size < t.size; omega⟩
            · have g7 : decide (kn < t.size) = false := decide_eq_false g
              have hT : Hid (t = toBa E2 ∧ ls' = E1) := by
                obtain ⟨f, h1, h2, h3⟩ := hch'.out
                rw [chop_done _ _ _ (by rw [ba_len]; exact g)] at h2 h3
                simp only [List.append_nil] at h2
                exact Lib.hid ⟨ba_ext (by rw [toBa_data]; exact h3), h2⟩
              have hO' := Lib.hid hO'
              obtain ⟨po', co', rfl⟩ := own_shape hO'.out
              go_wp2
              refine ⟨⟨ls', E2, kk + 1, by rw [hT.out.1], rfl, by omega, hg', hgw', hO'.out, ?_, ?_⟩, by simp [RowKit.intOf]; omega⟩
              · rw [hT.out.2]; omega
              · rw [hT.out.2]; exact hd
        · have g1 : (toBa cur).toList.isEmpty = false := by
            rw [ByteArray.toList_eq, toBa_data]
            cases cur with
            | nil => exact absurd rfl d1
            | cons _ _ => rfl
          have g2 : ¬ (toBa cur).toList = [] := by rw [ByteArray.toList_eq, toBa_data]; exact d1
          have hB' : Hid ((ls ++ [toBa cur]) ++ (chop kn wd.length wd).1 = E1 ∧ (chop kn wd.length wd).2 = E2) := by
            have := hB.out
            unfold endL at this
            rw [if_neg d1] at this
            exact Lib.hid this
          have g3 : decide (wd.length ≤ kn) = true := decide_eq_true (by omega)
          have g4 : decide ((cur.length : Int) + 1 + wd.length ≤ kn) = false := decide_eq_false (by omega)
          have hcp : 0 < cur.length := List.length_pos_iff.2 d1
          clear hB d1
          generalize hgB : toBa wd = wb at *
          generalize hgC : toBa cur = cb at *
          go_wp2_with (at_builtin; refine wpList_append_rd rfl (.tmp 54) (.tmp 56) 35 rfl w1.heap.size 9 is (.string ByteArray.empty) 1 16 (by kernel_rfl) his hs0 hs1 hs2 rfl (by decide) (.slice po ls.length co) ls.length (ls.map Value.string) rfl (World.ownsRow.alloc hO.out _) _ 1 [.string cb] rfl (Rd.new wr #[.string cb] 9 1 1 1 rfl) ?_ ?_ ?_ ?_ ?_; (· intro u hu; simp at hu; subst hu; rfl); (· unfold maxLen; omega); (· omega); (· simp; omega); intro lv2 w2 hown2 hgrow2)
          have hg2 : Gr w w2 := (hg.alloc _).grown hgrow2 (fun k hk => by have := hge k hk; omega)
          have hgwA : Gr w1 w2 := (hgw.alloc _).grown hgrow2 (fun k hk => by have := hge k hk; omega)
          have hO2 : StrsO w1.heap.size 9 w2 lv2 (ls ++ [cb]) := by unfold StrsO; rw [List.map_append, List.length_append]; exact hown2
          have hl2 : (ls ++ [cb]).length + wd.length ≤ 3 * s.size + 10 := by rw [List.length_append]; show _ + 1 + _ ≤ _; omega
          have hch : Hid (∃ f, wb.size ≤ f ∧ (ls ++ [cb]) ++ (chop kn f wb.data.toList).1 = E1 ∧ (chop kn f wb.data.toList).2 = E2) := ⟨wd.length, by rw [hts]; exact Nat.le_refl _, by rw [htd.out]; exact hB'.out.1, by rw [htd.out]; exact hB'.out.2⟩
          generalize ls ++ [cb] = LS at hO2 hl2 hch
          clear hown2 hgrow2
          go_loopw [5, 9] (fun o v wr => ∃ (t : ByteArray) (ls' : List ByteArray), v = .string t ∧ Gr w wr ∧ Gr w1 wr ∧ StrsO w1.heap.size 9 wr o ls' ∧ ls'.length + t.size ≤ 3 * s.size + 10 ∧ Hid (∃ f, t.size ≤ f ∧ ls' ++ (chop kn f t.data.toList).1 = E1 ∧ (chop kn f t.data.toList).2 = E2)) (fun _ v _ => strLen v)
          case atStart => exact ⟨wb, LS, rfl, hg2, hgwA, hO2, by omega, hch⟩
          case round =>
            obtain ⟨t, ls', rfl, hg', hgw', hO', hln', hch'⟩ := hrel
            clear hch hO2 hg2
            by_cases g : kn < t.size
            · have g7 : decide (kn < t.size) = true := decide_eq_true g
              obtain ⟨p9, c9, rfl⟩ := own_shape hO'
              have hge' := own_ge hO'
              have hsz' := hg'.size
              have hsz1' := hgw'.size
              have hO' := Lib.hid hO'
              go_wp2_with (at_builtin; refine wpList_append_rd rfl (.tmp 62) (.tmp 66) 35 rfl w1.heap.size 9 is (.string ByteArray.empty) 1 16 (by kernel_rfl) his hs0 hs1 hs2 rfl (by decide) (.slice p9 ls'.length c9) ls'.length (ls'.map Value.string) rfl (World.ownsRow.alloc hO'.out _) _ 1 [.string (t.extract 0 kn)] rfl (Rd.new wr #[.string (t.extract 0 kn)] 9 1 1 1 rfl) ?_ ?_ ?_ ?_ ?_; (· intro u hu; simp at hu; subst hu; rfl); (· unfold maxLen; omega); (· omega); (· simp; omega); intro lv3 w3 hown3 hgrow3)
              have hg3 : Gr w w3 := (hg'.alloc _).grown hgrow3 (fun k hk => by have := hge' k hk; omega)
              have hgw3 : Gr w1 w3 := (hgw'.alloc _).grown hgrow3 (fun k hk => by have := hge' k hk; omega)
              have hO3 : StrsO w1.heap.size 9 w3 lv3 (ls' ++ [t.extract 0 kn]) := by unfold StrsO; rw [List.map_append, List.length_append]; exact hown3
              have hz1 : (t.extract kn t.size).size = t.size - kn := by rw [← ba_len, ba_dropE, List.length_drop, ba_len]
              have hch2 : Hid (∃ f, (t.extract kn t.size).size ≤ f ∧ (ls' ++ [t.extract 0 kn]) ++ (chop kn f (t.extract kn t.size).data.toList).1 = E1 ∧ (chop kn f (t.extract kn t.size).data.toList).2 = E2) := by
                obtain ⟨f, h1, h2, h3⟩ := hch'.out
                obtain ⟨f, rfl⟩ : ∃ f', f = f' + 1 := ⟨f - 1, by omega⟩
                rw [chop_step _ _ _ (by rw [ba_len]; exact g)] at h2 h3
                refine ⟨f, by rw [hz1]; omega, ?_, ?_⟩
                · rw [ba_dropE, List.append_assoc, ba_take]
                  exact h2
                · rw [ba_dropE]
                  exact h3
              clear hown3 hgrow3 hch'
              exact ⟨⟨_, _, rfl, hg3, hgw3, hO3, by simp only [List.length_append, List.length_singleton, hz1]; omega, hch2⟩, by show (t.extract kn t.size).size < t.size; omega⟩
            · have g7 : decide (kn < t.size) = false := decide_eq_false g
              have hT : Hid (t = toBa E2 ∧ ls' = E1) := by
                obtain ⟨f, h1, h2, h3⟩ := hch'.out
                rw [chop_done _ _ _ (by rw [ba_len]; exact g)] at h2 h3
                simp only [List.append_nil] at h2
                exact Lib.hid ⟨ba_ext (by rw [toBa_data]; exact h3), h2⟩
              have hO' := Lib.hid hO'
              obtain ⟨po', co', rfl⟩ := own_shape hO'.out
              go_wp2
              refine ⟨⟨ls', E2, kk + 1, by rw [hT.out.1], rfl, by omega, hg', hgw', hO'.out, ?_, ?_⟩, by simp [RowKit.intOf]; omega⟩
              · rw [hT.out.2]; omega
              · rw [hT.out.2]; exact hd
        · have g1 : (toBa cur).toList.isEmpty = true := by
            rw [ByteArray.toList_eq, toBa_data, d1]; rfl
          have g2 : (toBa cur).toList = [] := by rw [ByteArray.toList_eq, toBa_data]; exact d1
          have hB' : Hid (ls ++ (chop kn wd.length wd).1 = E1 ∧ (chop kn wd.length wd).2 = E2) := by
            have := hB.out
            unfold endL at this
            rw [if_pos d1] at this
            exact Lib.hid this
          clear hB d1
          generalize hgB : toBa wd = wb at *
          generalize hgC : toBa cur = cb at *
          go_wp2
          have hO2 := hO.out
          have hg2 := hg
          have hl2 : ls.length + wd.length ≤ 3 * s.size + 10 := by omega
          have hch : Hid (∃ f, wb.size ≤ f ∧ ls ++ (chop kn f wb.data.toList).1 = E1 ∧ (chop kn f wb.data.toList).2 = E2) := ⟨wd.length, by rw [hts]; exact Nat.le_refl _, by rw [htd.out]; exact hB'.out.1, by rw [htd.out]; exact hB'.out.2⟩
          go_loopw [5, 9] (fun o v wr => ∃ (t : ByteArray) (ls' : List ByteArray), v = .string t ∧ Gr w wr ∧ Gr w1 wr ∧ StrsO w1.heap.size 9 wr o ls' ∧ ls'.length + t.size ≤ 3 * s.size + 10 ∧ Hid (∃ f, t.size ≤ f ∧ ls' ++ (chop kn f t.data.toList).1 = E1 ∧ (chop kn f t.data.toList).2 = E2)) (fun _ v _ => strLen v)
          case atStart => exact ⟨wb, ls, rfl, hg2, hgw, hO2, by omega, hch⟩
          case round =>
            obtain ⟨t, ls', rfl, hg', hgw', hO', hln', hch'⟩ := hrel
            clear hch hO2 hg2
            by_cases g : kn < t.size
            · have g7 : decide (kn < t.size) = true := decide_eq_true g
              obtain ⟨p9, c9, rfl⟩ := own_shape hO'
              have hge' := own_ge hO'
              have hsz' := hg'.size
              have hsz1' := hgw'.size
              have hO' := Lib.hid hO'
              go_wp2_with (at_builtin; refine wpList_append_rd rfl (.tmp 62) (.tmp 66) 35 rfl w1.heap.size 9 is (.string ByteArray.empty) 1 16 (by kernel_rfl) his hs0 hs1 hs2 rfl (by decide) (.slice p9 ls'.length c9) ls'.length (ls'.map Value.string) rfl (World.ownsRow.alloc hO'.out _) _ 1 [.string (t.extract 0 kn)] rfl (Rd.new wr #[.string (t.extract 0 kn)] 9 1 1 1 rfl) ?_ ?_ ?_ ?_ ?_; (· intro u hu; simp at hu; subst hu; rfl); (· unfold maxLen; omega); (· omega); (· simp; omega); intro lv3 w3 hown3 hgrow3)
              have hg3 : Gr w w3 := (hg'.alloc _).grown hgrow3 (fun k hk => by have := hge' k hk; omega)
              have hgw3 : Gr w1 w3 := (hgw'.alloc _).grown hgrow3 (fun k hk => by have := hge' k hk; omega)
              have hO3 : StrsO w1.heap.size 9 w3 lv3 (ls' ++ [t.extract 0 kn]) := by unfold StrsO; rw [List.map_append, List.length_append]; exact hown3
              have hz1 : (t.extract kn t.size).size = t.size - kn := by rw [← ba_len, ba_dropE, List.length_drop, ba_len]
              have hch2 : Hid (∃ f, (t.extract kn t.size).size ≤ f ∧ (ls' ++ [t.extract 0 kn]) ++ (chop kn f (t.extract kn t.size).data.toList).1 = E1 ∧ (chop kn f (t.extract kn t.size).data.toList).2 = E2) := by
                obtain ⟨f, h1, h2, h3⟩ := hch'.out
                obtain ⟨f, rfl⟩ : ∃ f', f = f' + 1 := ⟨f - 1, by omega⟩
                rw [chop_step _ _ _ (by rw [ba_len]; exact g)] at h2 h3
                refine ⟨f, by rw [hz1]; omega, ?_, ?_⟩
                · rw [ba_dropE, List.append_assoc, ba_take]
                  exact h2
                · rw [ba_dropE]
                  exact h3
              clear hown3 hgrow3 hch'
              exact ⟨⟨_, _, rfl, hg3, hgw3, hO3, by simp only [List.length_append, List.length_singleton, hz1]; omega, hch2⟩, by show (t.extract kn t.size).size < t.size; omega⟩
            · have g7 : decide (kn < t.size) = false := decide_eq_false g
              have hT : Hid (t = toBa E2 ∧ ls' = E1) := by
                obtain ⟨f, h1, h2, h3⟩ := hch'.out
                rw [chop_done _ _ _ (by rw [ba_len]; exact g)] at h2 h3
                simp only [List.append_nil] at h2
                exact Lib.hid ⟨ba_ext (by rw [toBa_data]; exact h3), h2⟩
              have hO' := Lib.hid hO'
              obtain ⟨po', co', rfl⟩ := own_shape hO'.out
              go_wp2
              refine ⟨⟨ls', E2, kk + 1, by rw [hT.out.1], rfl, by omega, hg', hgw', hO'.out, ?_, ?_⟩, by simp [RowKit.intOf]; omega⟩
              · rw [hT.out.2]; omega
              · rw [hT.out.2]; exact hd
    · have q3 : decide (kk < ws.length) = false := decide_eq_false c1
      have hd := hno.out
      rw [List.drop_of_length_le (by omega), List.foldl_nil] at hd
      simp only at hd
      unfold endL at hd
      have hge := own_ge hO
      have hsz1 := hgw.size
      have hz01 := hg1.size
      obtain ⟨po, co, rfl⟩ := own_shape hO
      by_cases d1 : cur = []
      · rw [if_pos d1] at hd
        have g1 : (toBa cur).toList.isEmpty = true := by
          rw [ByteArray.toList_eq, toBa_data, d1]; rfl
        have g2 : (toBa cur).toList = [] := by rw [ByteArray.toList_eq, toBa_data]; exact d1
        have hV := Lib.hid hd
        have hO := Lib.hid hO
        clear hd hno d1
        generalize hgC : toBa cur = cb at *
        go_wp2
        go_ret
        exact ⟨_, rfl, hg, by rw [← hV.out]; exact hO.out.read⟩
      · rw [if_neg d1] at hd
        have g1 : (toBa cur).toList.isEmpty = false := by
          rw [ByteArray.toList_eq, toBa_data]
          cases cur with
          | nil => exact absurd rfl d1
          | cons _ _ => rfl
        have g2 : ¬ (toBa cur).toList = [] := by rw [ByteArray.toList_eq, toBa_data]; exact d1
        have hV : Hid (ls ++ [toBa cur] = R) := hd
        have hO := Lib.hid hO
        clear hd hno d1
        generalize hgC : toBa cur = cb at *
        go_wp2_with (at_builtin; refine wpList_append_rd rfl (.tmp 74) (.tmp 76) 35 rfl w1.heap.size 9 is (.string ByteArray.empty) 1 16 (by kernel_rfl) his hs0 hs1 hs2 rfl (by decide) (.slice po ls.length co) ls.length (ls.map Value.string) rfl (World.ownsRow.alloc hO.out _) _ 1 [.string cb] rfl (Rd.new wr #[.string cb] 9 1 1 1 rfl) ?_ ?_ ?_ ?_ ?_; (· intro u hu; simp at hu; subst hu; rfl); (· unfold maxLen; omega); (· omega); (· simp; omega); intro lv2 w2 hown2 hgrow2)
        have hg2 : Gr w w2 := (hg.alloc _).grown hgrow2 (fun k hk => by have := hge k hk; omega)
        have hO2 : StrsO w1.heap.size 9 w2 lv2 (ls ++ [cb]) := by unfold StrsO; rw [List.map_append, List.length_append]; exact hown2
        go_ret
        exact ⟨_, rfl, hg2, by rw [← hV.out]; exact hO2.read⟩
end Go.Proofs.YtckmebfgianeoaaDoor
