/- Walks of the document's own function on one lexeme: a word. -/
import Derived.Test.YtaaomjpkgpjegaaH5
namespace Go.Proofs.Ytaaomjpkgpjegaa
open Go Go.RowKit

set_option maxRecDepth 100000 in
set_option maxHeartbeats 1000000 in
theorem one_word (s : ByteArray) (p : Nat) (lang : Int) (w : World) (hs : s.size ≤ 100000) (hp : p < s.size) (hl : lang ≠ 1) (hc : letB (s[p].toNat : Int) = true) :
    Calls Try.prog 31 #[.int .i64 lang, .string s, .int .i64 p] w fun e w' => (∃ v, e = .returned v ∧ OneIs (nextLx lang false (s.data.toList.drop p)) p v) ∧ Below w.heap.size w w' := by
  obtain ⟨q, HQ⟩ := name_it (p + wordLen (s.data.toList.drop p))
  have hq0 : 0 < wordLen (s.data.toList.drop p) := pos_word' (by rw [pk_first hp]; exact hc)
  have hq1 : p < q := by rw [← HQ.out]; omega
  have hq2 : q ≤ s.size := by rw [← HQ.out]; exact wordEnd_le (by omega)
  have HX := Lib.hid (show nextLx lang false (s.data.toList.drop p) = ⟨0, (s.data.toList.drop p).take (q - p), [], q - p⟩ by
    have hw : wordLen (s.data.toList.drop p) = q - p := by rw [← HQ.out]; omega
    unfold nextLx ownLx plainLx
    rw [if_pos hl, pk_first hp, hw]
    simp only [hc, if_true])
  have HT := Lib.hid (show strB ((s.data.toList.drop p).take (q - p)) = s.extract p q by rw [ext_eq])
  have HL := Lib.hid hc
  have tl : (lang == 1) = false := by simpa using hl
  have i2 : (p : Int) ≤ q := by omega
  clear hc hl hq0
  go_enter Try.func31, Try.ntmps31
  go_wp2_with fail
  refine (rletter_is HL.out _).mono ?_
  rintro e w' ⟨rfl, rfl⟩
  go_wp2_with fail
  refine (rword_to hs (a := p) rfl (by omega) HQ.out rfl _).mono ?_
  rintro e w' ⟨rfl, rfl⟩
  go_wp2
  refine bodyPost_ret (v := .agg #[.int .i64 0, .string (s.extract p q), .string ⟨#[]⟩, .int .i64 p, .int .i64 q]) (by simp [results, Try.results31, go_sem]) rfl ⟨⟨_, rfl, oneIs_some HX.out (by omega) HT.out rfl (by omega)⟩, ?_⟩
  first | with_reducible exact below_new2 _ _ _ | with_reducible exact (below_new2 _ _ _).drew | with_reducible exact below_set5 (below_new2 _ _ _) (Nat.le_refl _) | with_reducible first | with_reducible exact below_new2 _ _ _ | with_reducible exact (below_new2 _ _ _).drew | with_reducible exact below_set5 (below_new2 _ _ _) (Nat.le_refl _) | with_reducible exact below_set5 (below_new2 _ _ _).drew (Nat.le_refl _)

end Go.Proofs.Ytaaomjpkgpjegaa
