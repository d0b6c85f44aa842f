/- The law LexKinds: printed by a small program. -/
import Derived.Test.YtaaomjpkgpjegaaD4
import Derived.StillTailTactics
namespace Go.Proofs.Ytaaomjpkgpjegaa
open Go.RowKit

/-- New blocks, one behind the other. -/
def allocs (w : World) : List Obj → World
  | [] => w
  | o :: os => allocs (w.alloc o) os
theorem allocs_size : ∀ (os : List Obj) (w : World), (allocs w os).heap.size = w.heap.size + os.length
  | [], w => rfl
  | o :: os, w => by rw [allocs, allocs_size os]; simp; omega
theorem allocs_old : ∀ (os : List Obj) (w : World) (i : Nat), i < w.heap.size → (allocs w os).heap[i]? = w.heap[i]?
  | [], w, i, h => rfl
  | o :: os, w, i, h => by rw [allocs, allocs_old os _ i (by simp; omega)]; exact Below.heap_alloc w o i h
theorem allocs_at : ∀ (os : List Obj) (w : World) (i : Nat), i < os.length → (allocs w os).heap[w.heap.size + i]? = os[i]?
  | [], w, i, h => by simp at h
  | o :: os, w, 0, h => by
    rw [allocs, allocs_old os _ _ (by simp)]
    exact World.alloc_heap_new w o
  | o :: os, w, i + 1, h => by
    have := allocs_at os (w.alloc o) i (by simpa using h)
    rw [allocs]
    rw [World.size_alloc] at this
    rw [show w.heap.size + (i + 1) = w.heap.size + 1 + i from by omega, this]
    simp
theorem allocs_below : ∀ (os : List Obj) (w : World), Below w.heap.size w (allocs w os)
  | [], w => Below.refl _ _
  | o :: os, w => by
    have := allocs_below os (w.alloc o)
    exact ((Below.refl w.heap.size w).alloc (Nat.le_refl _) o).trans (this.mono (by simp))

/-- All that the law lays before its loops. -/
def laidObjs (w : World) : List Obj := [
  .cells #[.string ⟨#[97, 49, 95, 98]⟩, .string ⟨#[48, 48, 55]⟩, .string ⟨#[49, 46, 53, 48]⟩, .string ⟨#[34, 97, 92, 110, 92, 116, 92, 34, 92, 92, 34]⟩, .string ⟨#[60, 61]⟩, .string ⟨#[60, 62]⟩, .string ⟨#[45, 62]⟩, .string ⟨#[63]⟩, .string ⟨#[97, 58, 98]⟩, .string ⟨#[95, 58, 97]⟩, .string ⟨#[60, 112, 62]⟩, .string ⟨#[49, 46]⟩, .string ⟨#[33, 61]⟩, .string ⟨#[38, 38]⟩] 9,
  .cells #[.int .i64 0] 3,
  .cells #[.int .i64 2] 3,
  .cells #[.int .i64 3] 3,
  .cells #[.int .i64 4] 3,
  .cells #[.int .i64 7] 3,
  .cells #[.int .i64 7] 3,
  .cells #[.int .i64 7, .int .i64 7] 3,
  .cells #[.int .i64 0, .int .i64 7, .int .i64 0] 3,
  .cells #[.int .i64 7, .int .i64 0] 3,
  .cells #[.int .i64 7, .int .i64 0, .int .i64 7] 3,
  .cells #[.int .i64 2, .int .i64 7] 3,
  .cells #[.int .i64 7] 3,
  .cells #[.int .i64 7] 3,
  .cells #[.slice (some ⟨w.heap.size + 1, 0, none⟩) 1 1, .slice (some ⟨w.heap.size + 2, 0, none⟩) 1 1, .slice (some ⟨w.heap.size + 3, 0, none⟩) 1 1, .slice (some ⟨w.heap.size + 4, 0, none⟩) 1 1, .slice (some ⟨w.heap.size + 5, 0, none⟩) 1 1, .slice (some ⟨w.heap.size + 6, 0, none⟩) 1 1, .slice (some ⟨w.heap.size + 7, 0, none⟩) 2 2, .slice none 0 0, .slice (some ⟨w.heap.size + 8, 0, none⟩) 3 3, .slice (some ⟨w.heap.size + 9, 0, none⟩) 2 2, .slice (some ⟨w.heap.size + 10, 0, none⟩) 3 3, .slice (some ⟨w.heap.size + 11, 0, none⟩) 2 2, .slice (some ⟨w.heap.size + 12, 0, none⟩) 1 1, .slice (some ⟨w.heap.size + 13, 0, none⟩) 1 1] 37,
  .cells #[.string ⟨#[63, 97, 49]⟩, .string ⟨#[97, 58, 98]⟩, .string ⟨#[58, 98]⟩, .string ⟨#[97, 58]⟩, .string ⟨#[95, 58, 97, 58, 98]⟩, .string ⟨#[60, 112, 62]⟩, .string ⟨#[60, 32, 112, 62]⟩, .string ⟨#[60, 112]⟩, .string ⟨#[60, 97, 34, 98, 62]⟩, .string ⟨#[63]⟩, .string ⟨#[34, 97, 34, 58, 101, 110]⟩, .string ⟨#[63, 120, 60, 63, 121]⟩, .string ⟨#[49, 46, 53, 46, 50]⟩] 9,
  .cells #[.int .i64 1] 3,
  .cells #[.int .i64 6] 3,
  .cells #[.int .i64 6] 3,
  .cells #[.int .i64 0, .int .i64 7] 3,
  .cells #[.int .i64 7, .int .i64 0, .int .i64 6] 3,
  .cells #[.int .i64 5] 3,
  .cells #[.int .i64 7, .int .i64 0, .int .i64 7] 3,
  .cells #[.int .i64 7, .int .i64 0] 3,
  .cells #[.int .i64 4, .int .i64 6] 3,
  .cells #[.int .i64 1, .int .i64 7, .int .i64 1] 3,
  .cells #[.int .i64 3, .int .i64 7, .int .i64 2] 3,
  .cells #[.slice (some ⟨w.heap.size + 16, 0, none⟩) 1 1, .slice (some ⟨w.heap.size + 17, 0, none⟩) 1 1, .slice (some ⟨w.heap.size + 18, 0, none⟩) 1 1, .slice (some ⟨w.heap.size + 19, 0, none⟩) 2 2, .slice (some ⟨w.heap.size + 20, 0, none⟩) 3 3, .slice (some ⟨w.heap.size + 21, 0, none⟩) 1 1, .slice (some ⟨w.heap.size + 22, 0, none⟩) 3 3, .slice (some ⟨w.heap.size + 23, 0, none⟩) 2 2, .slice none 0 0, .slice none 0 0, .slice (some ⟨w.heap.size + 24, 0, none⟩) 2 2, .slice (some ⟨w.heap.size + 25, 0, none⟩) 3 3, .slice (some ⟨w.heap.size + 26, 0, none⟩) 3 3] 37]

/-- What the k-th call of a loop is handed, and what is asked of it. -/
def Handed (w : World) (lang : Int) (sb kb k : Nat) (W : World) : Prop :=
  ∃ (s : ByteArray) (A : Option Addr) (n : Nat), W.cell? ⟨sb, k, none⟩ = some (.string s) ∧ W.cell? ⟨kb, k, none⟩ = some (.slice A n n) ∧ s.size ≤ 16384 ∧
    ((n = 0 ∧ A = none ∧ ∃ ts r, lexAll lang s.data.toList = (ts, some r)) ∨
     (∃ ts : List Tok, lexAll lang s.data.toList = (ts, none) ∧ 0 < ts.length ∧ n = ts.length ∧ Reads W (w.heap.size + 28) 1 A n (ts.map fun t => .int .i64 t.x.kind)))

theorem Handed.below {w : World} {lang : Int} {sb kb k : Nat} {W W' : World} (h : Handed w lang sb kb k W) (hs : sb < w.heap.size + 28) (hk : kb < w.heap.size + 28) (hb : Below (w.heap.size + 28) W W') : Handed w lang sb kb k W' := by
  obtain ⟨s, A, n, h1, h2, h3, h4⟩ := h
  refine ⟨s, A, n, (hb.cell (p := ⟨sb, k, none⟩) hs).trans h1, (hb.cell (p := ⟨kb, k, none⟩) hk).trans h2, h3, ?_⟩
  rcases h4 with h4 | ⟨ts, a, b, c, d⟩
  · exact .inl h4
  · exact .inr ⟨ts, a, b, c, d.below hb⟩

theorem reads_blk {W : World} {g B : Nat} {cs : Array Value} (h : Blk W g 3 cs) (hg : g < B) (n : Nat) (hn : cs.size = n) : Reads W B 1 (some ⟨g, 0, none⟩) n cs.toList := by
  subst hn
  refine ⟨by simp, fun _ => ⟨_, rfl, hg, fun j u hu => ?_⟩⟩
  have e : (⟨g, 0, none⟩ : Addr).add j = ⟨g, j, none⟩ := by
    unfold Addr.add
    split
    · rename_i h0; rw [h0]
    · simp
  rw [e, h.cell j, ← hu]
  simp
theorem lexC0 : (lexAll 0 [97, 49, 95, 98]).2 = none ∧ (lexAll 0 [97, 49, 95, 98]).1.map (fun t => t.x.kind) = [0] := ⟨by kernel_rfl, by kernel_rfl⟩
theorem lexC1 : (lexAll 0 [48, 48, 55]).2 = none ∧ (lexAll 0 [48, 48, 55]).1.map (fun t => t.x.kind) = [2] := ⟨by kernel_rfl, by kernel_rfl⟩
theorem lexC2 : (lexAll 0 [49, 46, 53, 48]).2 = none ∧ (lexAll 0 [49, 46, 53, 48]).1.map (fun t => t.x.kind) = [3] := ⟨by kernel_rfl, by kernel_rfl⟩
theorem lexC3 : (lexAll 0 [34, 97, 92, 110, 92, 116, 92, 34, 92, 92, 34]).2 = none ∧ (lexAll 0 [34, 97, 92, 110, 92, 116, 92, 34, 92, 92, 34]).1.map (fun t => t.x.kind) = [4] := ⟨by kernel_rfl, by kernel_rfl⟩
theorem lexC4 : (lexAll 0 [60, 61]).2 = none ∧ (lexAll 0 [60, 61]).1.map (fun t => t.x.kind) = [7] := ⟨by kernel_rfl, by kernel_rfl⟩
theorem lexC5 : (lexAll 0 [60, 62]).2 = none ∧ (lexAll 0 [60, 62]).1.map (fun t => t.x.kind) = [7] := ⟨by kernel_rfl, by kernel_rfl⟩
theorem lexC6 : (lexAll 0 [45, 62]).2 = none ∧ (lexAll 0 [45, 62]).1.map (fun t => t.x.kind) = [7, 7] := ⟨by kernel_rfl, by kernel_rfl⟩
theorem lexC7 : ((lexAll 0 [63]).2.isSome) = true := by kernel_rfl
theorem lexC8 : (lexAll 0 [97, 58, 98]).2 = none ∧ (lexAll 0 [97, 58, 98]).1.map (fun t => t.x.kind) = [0, 7, 0] := ⟨by kernel_rfl, by kernel_rfl⟩
theorem lexC9 : (lexAll 0 [95, 58, 97]).2 = none ∧ (lexAll 0 [95, 58, 97]).1.map (fun t => t.x.kind) = [7, 0] := ⟨by kernel_rfl, by kernel_rfl⟩
theorem lexC10 : (lexAll 0 [60, 112, 62]).2 = none ∧ (lexAll 0 [60, 112, 62]).1.map (fun t => t.x.kind) = [7, 0, 7] := ⟨by kernel_rfl, by kernel_rfl⟩
theorem lexC11 : (lexAll 0 [49, 46]).2 = none ∧ (lexAll 0 [49, 46]).1.map (fun t => t.x.kind) = [2, 7] := ⟨by kernel_rfl, by kernel_rfl⟩
theorem lexC12 : (lexAll 0 [33, 61]).2 = none ∧ (lexAll 0 [33, 61]).1.map (fun t => t.x.kind) = [7] := ⟨by kernel_rfl, by kernel_rfl⟩
theorem lexC13 : (lexAll 0 [38, 38]).2 = none ∧ (lexAll 0 [38, 38]).1.map (fun t => t.x.kind) = [7] := ⟨by kernel_rfl, by kernel_rfl⟩
theorem lexS0 : (lexAll 1 [63, 97, 49]).2 = none ∧ (lexAll 1 [63, 97, 49]).1.map (fun t => t.x.kind) = [1] := ⟨by kernel_rfl, by kernel_rfl⟩
theorem lexS1 : (lexAll 1 [97, 58, 98]).2 = none ∧ (lexAll 1 [97, 58, 98]).1.map (fun t => t.x.kind) = [6] := ⟨by kernel_rfl, by kernel_rfl⟩
theorem lexS2 : (lexAll 1 [58, 98]).2 = none ∧ (lexAll 1 [58, 98]).1.map (fun t => t.x.kind) = [6] := ⟨by kernel_rfl, by kernel_rfl⟩
theorem lexS3 : (lexAll 1 [97, 58]).2 = none ∧ (lexAll 1 [97, 58]).1.map (fun t => t.x.kind) = [0, 7] := ⟨by kernel_rfl, by kernel_rfl⟩
theorem lexS4 : (lexAll 1 [95, 58, 97, 58, 98]).2 = none ∧ (lexAll 1 [95, 58, 97, 58, 98]).1.map (fun t => t.x.kind) = [7, 0, 6] := ⟨by kernel_rfl, by kernel_rfl⟩
theorem lexS5 : (lexAll 1 [60, 112, 62]).2 = none ∧ (lexAll 1 [60, 112, 62]).1.map (fun t => t.x.kind) = [5] := ⟨by kernel_rfl, by kernel_rfl⟩
theorem lexS6 : (lexAll 1 [60, 32, 112, 62]).2 = none ∧ (lexAll 1 [60, 32, 112, 62]).1.map (fun t => t.x.kind) = [7, 0, 7] := ⟨by kernel_rfl, by kernel_rfl⟩
theorem lexS7 : (lexAll 1 [60, 112]).2 = none ∧ (lexAll 1 [60, 112]).1.map (fun t => t.x.kind) = [7, 0] := ⟨by kernel_rfl, by kernel_rfl⟩
theorem lexS8 : ((lexAll 1 [60, 97, 34, 98, 62]).2.isSome) = true := by kernel_rfl
theorem lexS9 : ((lexAll 1 [63]).2.isSome) = true := by kernel_rfl
theorem lexS10 : (lexAll 1 [34, 97, 34, 58, 101, 110]).2 = none ∧ (lexAll 1 [34, 97, 34, 58, 101, 110]).1.map (fun t => t.x.kind) = [4, 6] := ⟨by kernel_rfl, by kernel_rfl⟩
theorem lexS11 : (lexAll 1 [63, 120, 60, 63, 121]).2 = none ∧ (lexAll 1 [63, 120, 60, 63, 121]).1.map (fun t => t.x.kind) = [1, 7, 1] := ⟨by kernel_rfl, by kernel_rfl⟩
theorem lexS12 : (lexAll 1 [49, 46, 53, 46, 50]).2 = none ∧ (lexAll 1 [49, 46, 53, 46, 50]).1.map (fun t => t.x.kind) = [3, 7, 2] := ⟨by kernel_rfl, by kernel_rfl⟩

theorem handed_ok {w W : World} {lang : Int} {sb kb k g n : Nat} {s : ByteArray} {l : List UInt8} {cs : Array Value} {ks : List Nat} (h1 : W.cell? ⟨sb, k, none⟩ = some (.string s)) (h2 : W.cell? ⟨kb, k, none⟩ = some (.slice (some ⟨g, 0, none⟩) n n))
    (hd : s.data.toList = l) (hs : l.length ≤ 16384) (hl : (lexAll lang l).2 = none ∧ (lexAll lang l).1.map (fun t => t.x.kind) = ks) (hb : Blk W g 3 cs) (hg : g < w.heap.size + 28) (hc : cs.toList = ks.map fun q => .int .i64 q) (hn : n = ks.length) (h0 : 0 < ks.length) : Handed w lang sb kb k W := by
  obtain ⟨ha, hk⟩ := hl
  rcases hL : lexAll lang l with ⟨ts, b⟩
  rw [hL] at ha hk
  have hlen : ts.length = ks.length := by rw [← hk]; simp
  refine ⟨s, _, n, h1, h2, by rw [← hd] at hs; simpa using hs, .inr ⟨ts, by rw [hd, hL]; exact Prod.ext rfl ha, by omega, by omega, ?_⟩⟩
  have e : (ts.map fun t => Value.int .i64 t.x.kind) = cs.toList := by rw [hc, ← hk, List.map_map]; rfl
  rw [e]
  refine reads_blk hb hg n ?_
  have : cs.toList.length = ks.length := by rw [hc]; simp
  rw [hn]; simpa using this
theorem handed_no {w W : World} {lang : Int} {sb kb k : Nat} {s : ByteArray} {l : List UInt8} (h1 : W.cell? ⟨sb, k, none⟩ = some (.string s)) (h2 : W.cell? ⟨kb, k, none⟩ = some (.slice none 0 0))
    (hd : s.data.toList = l) (hs : l.length ≤ 16384) (hl : (lexAll lang l).2.isSome = true) : Handed w lang sb kb k W := by
  rcases hL : lexAll lang l with ⟨ts, _ | r⟩
  · rw [hL] at hl; cases hl
  · exact ⟨s, none, 0, h1, h2, by rw [← hd] at hs; simpa using hs, .inl ⟨rfl, rfl, ts, r, by rw [hd, hL]⟩⟩

theorem laid_blk {w W : World} (h : allocs w (laidObjs w) = W) {i : Nat} {cs : Array Value} {t : TypeId} (hi : i < (laidObjs w).length) (ho : (laidObjs w)[i]? = some (.cells cs t)) : Blk W (w.heap.size + i) t cs := by
  unfold Blk
  rw [← h, allocs_at _ _ _ hi, ho]

theorem handC {w W : World} (h : allocs w (laidObjs w) = W) : ∀ k, k < 14 → Handed w 0 (w.heap.size + 0) (w.heap.size + 14) k W := by
  have hs := laid_blk h (i := 0) (by show 0 < 28; decide) rfl
  have hk := laid_blk h (i := 14) (by show 14 < 28; decide) rfl
  intro k hlt
  have hc : k = 0 ∨ k = 1 ∨ k = 2 ∨ k = 3 ∨ k = 4 ∨ k = 5 ∨ k = 6 ∨ k = 7 ∨ k = 8 ∨ k = 9 ∨ k = 10 ∨ k = 11 ∨ k = 12 ∨ k = 13 := by omega
  rcases hc with rfl | rfl | rfl | rfl | rfl | rfl | rfl | rfl | rfl | rfl | rfl | rfl | rfl | rfl
  · exact handed_ok (hs.cell 0) (hk.cell 0) rfl (by decide) lexC0 (laid_blk h (i := 1) (by show 1 < 28; decide) rfl) (by omega) rfl rfl (by decide)
  · exact handed_ok (hs.cell 1) (hk.cell 1) rfl (by decide) lexC1 (laid_blk h (i := 2) (by show 2 < 28; decide) rfl) (by omega) rfl rfl (by decide)
  · exact handed_ok (hs.cell 2) (hk.cell 2) rfl (by decide) lexC2 (laid_blk h (i := 3) (by show 3 < 28; decide) rfl) (by omega) rfl rfl (by decide)
  · exact handed_ok (hs.cell 3) (hk.cell 3) rfl (by decide) lexC3 (laid_blk h (i := 4) (by show 4 < 28; decide) rfl) (by omega) rfl rfl (by decide)
  · exact handed_ok (hs.cell 4) (hk.cell 4) rfl (by decide) lexC4 (laid_blk h (i := 5) (by show 5 < 28; decide) rfl) (by omega) rfl rfl (by decide)
  · exact handed_ok (hs.cell 5) (hk.cell 5) rfl (by decide) lexC5 (laid_blk h (i := 6) (by show 6 < 28; decide) rfl) (by omega) rfl rfl (by decide)
  · exact handed_ok (hs.cell 6) (hk.cell 6) rfl (by decide) lexC6 (laid_blk h (i := 7) (by show 7 < 28; decide) rfl) (by omega) rfl rfl (by decide)
  · exact handed_no (hs.cell 7) (hk.cell 7) rfl (by decide) lexC7
  · exact handed_ok (hs.cell 8) (hk.cell 8) rfl (by decide) lexC8 (laid_blk h (i := 8) (by show 8 < 28; decide) rfl) (by omega) rfl rfl (by decide)
  · exact handed_ok (hs.cell 9) (hk.cell 9) rfl (by decide) lexC9 (laid_blk h (i := 9) (by show 9 < 28; decide) rfl) (by omega) rfl rfl (by decide)
  · exact handed_ok (hs.cell 10) (hk.cell 10) rfl (by decide) lexC10 (laid_blk h (i := 10) (by show 10 < 28; decide) rfl) (by omega) rfl rfl (by decide)
  · exact handed_ok (hs.cell 11) (hk.cell 11) rfl (by decide) lexC11 (laid_blk h (i := 11) (by show 11 < 28; decide) rfl) (by omega) rfl rfl (by decide)
  · exact handed_ok (hs.cell 12) (hk.cell 12) rfl (by decide) lexC12 (laid_blk h (i := 12) (by show 12 < 28; decide) rfl) (by omega) rfl rfl (by decide)
  · exact handed_ok (hs.cell 13) (hk.cell 13) rfl (by decide) lexC13 (laid_blk h (i := 13) (by show 13 < 28; decide) rfl) (by omega) rfl rfl (by decide)

theorem handS {w W : World} (h : allocs w (laidObjs w) = W) : ∀ k, k < 13 → Handed w 1 (w.heap.size + 15) (w.heap.size + 27) k W := by
  have hs := laid_blk h (i := 15) (by show 15 < 28; decide) rfl
  have hk := laid_blk h (i := 27) (by show 27 < 28; decide) rfl
  intro k hlt
  have hc : k = 0 ∨ k = 1 ∨ k = 2 ∨ k = 3 ∨ k = 4 ∨ k = 5 ∨ k = 6 ∨ k = 7 ∨ k = 8 ∨ k = 9 ∨ k = 10 ∨ k = 11 ∨ k = 12 := by omega
  rcases hc with rfl | rfl | rfl | rfl | rfl | rfl | rfl | rfl | rfl | rfl | rfl | rfl | rfl
  · exact handed_ok (hs.cell 0) (hk.cell 0) rfl (by decide) lexS0 (laid_blk h (i := 16) (by show 16 < 28; decide) rfl) (by omega) rfl rfl (by decide)
  · exact handed_ok (hs.cell 1) (hk.cell 1) rfl (by decide) lexS1 (laid_blk h (i := 17) (by show 17 < 28; decide) rfl) (by omega) rfl rfl (by decide)
  · exact handed_ok (hs.cell 2) (hk.cell 2) rfl (by decide) lexS2 (laid_blk h (i := 18) (by show 18 < 28; decide) rfl) (by omega) rfl rfl (by decide)
  · exact handed_ok (hs.cell 3) (hk.cell 3) rfl (by decide) lexS3 (laid_blk h (i := 19) (by show 19 < 28; decide) rfl) (by omega) rfl rfl (by decide)
  · exact handed_ok (hs.cell 4) (hk.cell 4) rfl (by decide) lexS4 (laid_blk h (i := 20) (by show 20 < 28; decide) rfl) (by omega) rfl rfl (by decide)
  · exact handed_ok (hs.cell 5) (hk.cell 5) rfl (by decide) lexS5 (laid_blk h (i := 21) (by show 21 < 28; decide) rfl) (by omega) rfl rfl (by decide)
  · exact handed_ok (hs.cell 6) (hk.cell 6) rfl (by decide) lexS6 (laid_blk h (i := 22) (by show 22 < 28; decide) rfl) (by omega) rfl rfl (by decide)
  · exact handed_ok (hs.cell 7) (hk.cell 7) rfl (by decide) lexS7 (laid_blk h (i := 23) (by show 23 < 28; decide) rfl) (by omega) rfl rfl (by decide)
  · exact handed_no (hs.cell 8) (hk.cell 8) rfl (by decide) lexS8
  · exact handed_no (hs.cell 9) (hk.cell 9) rfl (by decide) lexS9
  · exact handed_ok (hs.cell 10) (hk.cell 10) rfl (by decide) lexS10 (laid_blk h (i := 24) (by show 24 < 28; decide) rfl) (by omega) rfl rfl (by decide)
  · exact handed_ok (hs.cell 11) (hk.cell 11) rfl (by decide) lexS11 (laid_blk h (i := 25) (by show 25 < 28; decide) rfl) (by omega) rfl rfl (by decide)
  · exact handed_ok (hs.cell 12) (hk.cell 12) rfl (by decide) lexS12 (laid_blk h (i := 26) (by show 26 < 28; decide) rfl) (by omega) rfl rfl (by decide)

end Go.Proofs.Ytaaomjpkgpjegaa
