/- Walks of the document's own function on one lexeme: a quoted text. -/
import Derived.Test.YtaaomjpkgpjegaaI4
namespace Go.Proofs.Ytaaomjpkgpjegaa
open Go Go.RowKit

theorem Res5.far {w : World} {g : Nat} {a0 a1 a2 a3 a4 : Value} (h : Res5 w g a0 a1 a2 a3 a4) {p : Addr} (hp : p.block ≠ g) (u : Value) : Res5 (w.setCell p u) g a0 a1 a2 a3 a4 := by
  obtain ⟨⟨h0, h1, h2, h3, h4⟩, f0, f1, f2, f3, f4⟩ := h
  have hc : ∀ i, (w.setCell p u).cell? ⟨g, i, none⟩ = w.cell? ⟨g, i, none⟩ := fun i => World.cell?_setCell_other w p _ u (fun e => hp (by rw [e]))
  have hf : ∀ i, (w.setCell p u).frozen? ⟨g, i, none⟩ = w.frozen? ⟨g, i, none⟩ := fun i => World.frozen?_of_block (Below.heap_setCell w p u g (Ne.symm hp))
  exact ⟨⟨(hc 0).trans h0, (hc 1).trans h1, (hc 2).trans h2, (hc 3).trans h3, (hc 4).trans h4⟩, (hf 0).trans f0, (hf 1).trans f1, (hf 2).trans f2, (hf 3).trans f3, (hf 4).trans f4⟩
theorem Res5.read31 {w : World} {g : Nat} {a0 a1 a2 a3 a4 : Value} {tmps : Array Value} (h : Res5 w g a0 a1 a2 a3 a4) (h6 : tmps[6]?.getD undef = .pointer (some ⟨g, 0, none⟩)) :
    (results Try.f31 tmps).run Try.prog w = .ok (.agg #[a0, a1, a2, a3, a4]) w := by
  obtain ⟨⟨c0, c1, c2, c3, c4⟩, _⟩ := h
  simp [results, Try.results31, go_sem, h6, c0, c1, c2, c3, c4]

set_option maxRecDepth 100000 in
set_option maxHeartbeats 1000000 in
theorem one_quo (s : ByteArray) (p : Nat) (lang : Int) (w : World) (hs : s.size ≤ 100000) (hp : p < s.size) (hc : (s[p].toNat : Int) = 34) :
    Calls Try.prog 31 #[.int .i64 lang, .string s, .int .i64 p] w fun e w' => (∃ v, e = .returned v ∧ OneIs (nextLx lang false (s.data.toList.drop p)) p v) ∧ Below w.heap.size w w' := by
  have hpk : pk (s.data.toList.drop p) 0 = 34 := by rw [pk_first hp, hc]
  have HX := Lib.hid (show nextLx lang false (s.data.toList.drop p) = match quoted (s.data.toList.drop p) with | some (t, n) => ⟨4, t, [], n⟩ | none => ⟨4, [], [], 0⟩ by
    unfold nextLx
    rw [own_none_of (by rw [hpk]; decide) (by rw [hpk]; decide) (by rw [hpk]; decide) (by rw [hpk]; rfl)]
    unfold plainLx
    rw [if_neg (by rw [hpk]; decide), if_neg (by rw [hpk]; decide), if_pos hpk]
    cases quoted (s.data.toList.drop p) with
    | none => rfl
    | some x => rfl)
  have HQL := Lib.hid (show ∀ x, quoted (s.data.toList.drop p) = some x → 1 < x.2 ∧ x.2 ≤ s.size - p from fun x hx => by
    have := quoted_le (by rw [drop_len]; omega) hx
    rw [drop_len] at this
    exact this)
  have HL := Lib.hid (show letB (s[p].toNat : Int) = false by rw [hc]; rfl)
  have HD := Lib.hid (show digB (s[p].toNat : Int) = false by rw [hc]; rfl)
  have t63 : ((s[p].toNat : Int) == 63) = false := by rw [hc]; rfl
  have t58 : ((s[p].toNat : Int) == 58) = false := by rw [hc]; rfl
  have t34 : ((s[p].toNat : Int) == 34) = true := by rw [hc]; rfl
  clear hc hpk
  obtain ⟨X, HXQ⟩ := name_it (quoted (s.data.toList.drop p))
  rw [HXQ.out] at HX HQL
  cases tl : (lang == 1)
  all_goals
    go_enter Try.func31, Try.ntmps31
    go_wp2_with fail
    refine (rletter_is HL.out _).mono ?_
    rintro e w' ⟨rfl, rfl⟩
    go_wp2_with fail
    refine (rdigit_is HD.out _).mono ?_
    rintro e w' ⟨rfl, rfl⟩
    go_wp2_with fail
    refine (rquoted_any s p hs hp _).mono ?_
    rintro e w1 ⟨rfl, hb1⟩
    have hbw := (below_new2 w _ _).trans (hb1.mono (by simp; omega))
    have hz := hb1.size
    simp at hz
    have hr0 := ((Res5.new w (.int .i64 0) (.string ⟨#[]⟩) (.string ⟨#[]⟩) (.int .i64 0) (.int .i64 0)).below (by simp) ((Below.refl _ _).alloc (Nat.le_refl _) _)).below (by simp; omega) hb1
    have hr1 := (Res5.new (w.alloc (.cells #[.int .i64 0, .string ⟨#[]⟩, .string ⟨#[]⟩, .int .i64 0, .int .i64 0] 36)) (.int .i64 4) (.string ⟨#[]⟩) (.string ⟨#[]⟩) (.int .i64 p) (.int .i64 p)).below (by simp) hb1
    replace hr1 : Res5 w1 (w.heap.size + 1) (.int .i64 4) (.string ⟨#[]⟩) (.string ⟨#[]⟩) (.int .i64 p) (.int .i64 p) := by simpa using hr1
    obtain ⟨⟨c0, c1, c2, c3, c4⟩, f0, f1, f2, f3, f4⟩ := hr0
    obtain ⟨⟨d0, d1, d2, d3, d4⟩, g0, g1, g2, g3, g4⟩ := hr1
    rw [HXQ.out]
    clear hb1
    have RS : Res5 w1 w.heap.size _ _ _ _ _ := ⟨⟨c0, c1, c2, c3, c4⟩, f0, f1, f2, f3, f4⟩
    cases X with
    | none =>
      clear HQL
      rw [show quoEnd p none = .tuple #[.string ⟨#[]⟩, .int .i64 (-1)] from rfl]
      go_wp2
      refine bodyPost_ret (v := .agg #[.int .i64 4, .string ⟨#[]⟩, .string ⟨#[]⟩, .int .i64 p, .int .i64 (-1)]) ((((RS.far (p := ⟨w.heap.size + 1, 1, none⟩) (by simp) _).far (p := ⟨w.heap.size + 1, 4, none⟩) (by simp) _).set5 _ _ _ _ _).read31 rfl) rfl ⟨⟨_, rfl, ?_⟩, ?_⟩
      · rw [HX.out]
        exact .inr ⟨rfl, _, _, _, rfl, by omega⟩
      · exact below_set5 ((hbw.setCell (p := ⟨w.heap.size + 1, 1, none⟩) (by simp) _).setCell (p := ⟨w.heap.size + 1, 4, none⟩) (by simp) _) (Nat.le_refl _)
    | some x =>
      obtain ⟨t, n⟩ := x
      have hn := HQL.out _ rfl
      obtain ⟨q, HQ⟩ := name_it (p + n)
      have hq1 : p < q := by rw [← HQ.out]; simp at hn; omega
      have hq2 : q ≤ s.size := by rw [← HQ.out]; simp at hn; omega
      rw [show quoEnd p (some (t, n)) = .tuple #[.string (strB t), .int .i64 ((p + n : Nat) : Int)] from rfl, HQ.out]
      have HNX := Lib.hid (show q - p = n by rw [← HQ.out]; omega)
      clear HQL hn
      obtain ⟨T, HT⟩ := name_it (strB t)
      rw [HT.out]
      go_wp2
      refine bodyPost_ret (v := .agg #[.int .i64 4, .string T, .string ⟨#[]⟩, .int .i64 p, .int .i64 q]) ((((RS.far (p := ⟨w.heap.size + 1, 1, none⟩) (by simp) _).far (p := ⟨w.heap.size + 1, 4, none⟩) (by simp) _).set5 _ _ _ _ _).read31 rfl) rfl ⟨⟨_, rfl, ?_⟩, ?_⟩
      · exact oneIs_some HX.out (by rw [← HNX.out]; omega) HT.out rfl HQ.out
      · exact below_set5 ((hbw.setCell (p := ⟨w.heap.size + 1, 1, none⟩) (by simp) _).setCell (p := ⟨w.heap.size + 1, 4, none⟩) (by simp) _) (Nat.le_refl _)

end Go.Proofs.Ytaaomjpkgpjegaa
