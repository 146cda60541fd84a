/- Plain laws of sections: what is packed is unpacked, by both. -/
import Derived.Test.YtphmjdbdhhbdoaaV50
namespace Go.Proofs.Ytphmjdbdhhbdoaa
set_option linter.all false
open Go Go.Sx Go.Proofs
theorem drop_add' {bs a b : List Nat} {i : Nat} (h : bs.drop i = a ++ b) : bs.drop (i + a.length) = b := by
  rw [← List.drop_drop, h, List.drop_left]
theorem drop_le {bs a b : List Nat} {i : Nat} (h : bs.drop i = a ++ b) (hi : i ≤ bs.length) : i + a.length ≤ bs.length := by
  have := congrArg List.length h
  rw [List.length_drop, List.length_append] at this
  omega
def secsOk (l : List Sec) : Prop := l.length ≤ 255 ∧ secsLt l ∧ bodySum l ≤ 1000000
theorem oneH_at {bs rest : List Nat} {i wh : Nat} {n : Int} {s : Sec} (hd : bs.drop i = headN s ++ rest) (hi : i ≤ bs.length) (hl : s.2.length ≤ 1000000) (hn : (s.2.length : Int) ≤ n) :
    oneH bs n (i, 0, wh) = ((i + (headN s).length, 0, wh), (s.1, s.2.length)) := by
  unfold headN at hd
  rw [List.append_assoc, List.append_assoc] at hd
  have h1 : rRaw bs (i, 0, wh) 1 = ((i + 1, 0, wh), [s.1]) := rTake_at hd rfl hi
  have hd1 := drop_add' hd
  have hi1 := drop_le hd hi
  have h2 : rNumber bs (i + 1, 0, wh) = ((i + 1 + (putN s.2.length).length, 0, wh), s.2.length) := rNumber_at (by omega) hd1
  have hd2 := drop_add' hd1
  have hi2 := drop_le hd1 hi1
  have h3 : rTake bs (i + 1 + (putN s.2.length).length, 0, wh) 4 (i + 1 + (putN s.2.length).length) = ((i + 1 + (putN s.2.length).length + 4, 0, wh), leB 4 (sumN usual 0 s.2)) := rTake_at hd2 (leB_len _ _) hi2
  have h4 : rLength bs (i + 1, 0, wh) n = ((i + 1 + (putN s.2.length).length, 0, wh), s.2.length) := by
    unfold rLength; rw [h2, if_neg (by dsimp only; omega)]
  unfold oneH rFixed
  rw [h1, h4]
  dsimp only
  rw [h3]
  simp only [headN, List.length_append, leB_len, List.length_singleton]
  rw [← Nat.add_assoc, ← Nat.add_assoc]
  rfl
theorem readH_at {bs : List Nat} {n : Int} {wh : Nat} : ∀ (l : List Sec) (i : Nat) (acc : List (Nat × Nat)) (rest : List Nat), bs.drop i = l.flatMap headN ++ rest → i ≤ bs.length → (∀ s ∈ l, s.2.length ≤ 1000000 ∧ (s.2.length : Int) ≤ n) →
    readH bs n l.length (i, 0, wh) acc = ((i + (l.flatMap headN).length, 0, wh), some (acc ++ l.map fun s => (s.1, s.2.length)))
  | [], i, acc, rest, _, _, _ => by simp [readH]
  | s :: l, i, acc, rest, hd, hi, hs => by
    rw [List.flatMap_cons, List.append_assoc] at hd
    have h1 := oneH_at (wh := wh) hd hi (hs s List.mem_cons_self).1 (hs s List.mem_cons_self).2
    rw [List.length_cons, readH, h1]
    dsimp only
    rw [if_neg (by decide), readH_at l _ _ rest (drop_add' hd) (drop_le hd hi) (fun x hx => hs x (List.mem_cons_of_mem _ hx))]
    simp only [List.flatMap_cons, List.length_append, List.map_cons, List.append_assoc, Nat.add_assoc]
    rfl
theorem gHead_at {bs : List Nat} {wh : Nat} : ∀ (l : List Sec) (i : Nat) (acc : List (Nat × Nat)) (rest : List Nat), bs.drop i = l.flatMap headN ++ rest → i ≤ bs.length → (∀ s ∈ l, s.2.length ≤ 1000000 ∧ (s.2.length : Int) ≤ bs.length) →
    gHead bs l.length (i, 0, wh) acc = ((i + (l.flatMap headN).length, 0, wh), acc ++ l.map fun s => (s.1, s.2.length))
  | [], i, acc, rest, _, _, _ => by simp [gHead]
  | s :: l, i, acc, rest, hd, hi, hs => by
    rw [List.flatMap_cons, List.append_assoc] at hd
    have h1 := oneH_at (wh := wh) hd hi (hs s List.mem_cons_self).1 (hs s List.mem_cons_self).2
    rw [List.length_cons, gHead, h1]
    dsimp only
    rw [if_neg (by decide), if_pos rfl, gHead_at l _ _ rest (drop_add' hd) (drop_le hd hi) (fun x hx => hs x (List.mem_cons_of_mem _ hx))]
    simp only [List.flatMap_cons, List.length_append, List.map_cons, List.append_assoc, Nat.add_assoc]
    rfl
theorem rRaw_body {bs : List Nat} {i wh : Nat} {s rest : List Nat} (hd : bs.drop i = s ++ rest) (hi : i ≤ bs.length) : rRaw bs (i, 0, wh) (s.length : Int) = ((i + s.length, 0, wh), s) := by
  unfold rRaw
  rw [show (max (s.length : Int) 0).toNat = s.length by omega]
  exact rTake_at hd rfl hi
theorem readB_at {bs : List Nat} {wh : Nat} : ∀ (l : List Sec) (i : Nat) (rest : List Nat), bs.drop i = l.flatMap (·.2) ++ rest → i ≤ bs.length →
    readB bs (i, 0, wh) (l.map fun s => (s.1, s.2.length)) = ((i + (l.flatMap (·.2)).length, 0, wh), l)
  | [], i, _, _, _ => by simp [readB]
  | s :: l, i, rest, hd, hi => by
    rw [List.flatMap_cons, List.append_assoc] at hd
    have h1 := rRaw_body (wh := wh) hd hi
    rw [List.map_cons, readB]
    dsimp only
    rw [h1]
    dsimp only
    rw [readB_at l _ rest (drop_add' hd) (drop_le hd hi)]
    simp only [List.flatMap_cons, List.length_append, Nat.add_assoc]
theorem gBody_at {bs : List Nat} {wh : Nat} : ∀ (l : List Sec) (i : Nat) (rest : List Nat), bs.drop i = l.flatMap (·.2) ++ rest → i ≤ bs.length →
    gBody bs (i, 0, wh) (l.map fun s => (s.1, s.2.length)) = l
  | [], i, _, _, _ => by simp [gBody]
  | s :: l, i, rest, hd, hi => by
    rw [List.flatMap_cons, List.append_assoc] at hd
    have h1 := rRaw_body (wh := wh) hd hi
    rw [List.map_cons, gBody]
    dsimp only
    rw [if_neg (by decide), h1]
    dsimp only
    rw [gBody_at l _ rest (drop_add' hd) (drop_le hd hi)]
theorem count_at {bs : List Nat} {i wh k : Nat} {rest : List Nat} (hk : k ≤ 255) (hd : bs.drop i = putN k ++ rest) : rLength bs (i, 0, wh) 255 = ((i + (putN k).length, 0, wh), k) := by
  have h2 : rNumber bs (i, 0, wh) = ((i + (putN k).length, 0, wh), k) := rNumber_at (by omega) hd
  unfold rLength; rw [h2, if_neg (by dsimp only; omega)]
theorem raw_body_le {l : List Sec} : bodySum l ≤ (rawPack l).length := by unfold rawPack bodySum; simp only [List.length_append]; omega
theorem readN_raw {l : List Sec} (h : secsOk l) : readN ((rawPack l).drop 4) (0, 0, 0) (rawPack l).length = ((((rawPack l).drop 4).length, 0, 0), l) := by
  have hb := raw_body_le (l := l)
  have hd : ((rawPack l).drop 4).drop 0 = putN l.length ++ (l.flatMap headN ++ l.flatMap (·.2)) := by
    unfold rawPack
    rw [List.drop_zero, List.append_assoc, List.append_assoc, show (4 : Nat) = signL.length from rfl, List.drop_left]
  have h1 := count_at (wh := 0) h.1 hd
  have hd1 := drop_add' hd
  have hi1 := drop_le hd (Nat.zero_le _)
  have h2 := readH_at (n := ((rawPack l).length : Int)) (wh := 0) l _ [] (l.flatMap (·.2)) hd1 hi1 (fun s hs => by have := body_le hs; have := h.2.2; omega)
  have hd2 := drop_add' hd1
  have hi2 := drop_le hd1 hi1
  have h3 := readB_at (wh := 0) l _ [] (by rw [hd2, List.append_nil]) hi2
  unfold readN
  rw [h1]
  dsimp only
  rw [h2]
  dsimp only
  rw [List.nil_append, h3]
  have hlen := congrArg List.length hd
  rw [List.drop_zero, List.length_append, List.length_append] at hlen
  rw [hlen]
  simp only [Nat.zero_add, Nat.add_assoc]
theorem guessN_raw {l : List Sec} (h : secsOk l) : guessN (rawPack l) = l := by
  have hb := raw_body_le (l := l)
  have hd : (rawPack l).drop 4 = putN l.length ++ (l.flatMap headN ++ l.flatMap (·.2)) := by
    unfold rawPack
    rw [List.append_assoc, List.append_assoc, show (4 : Nat) = signL.length from rfl, List.drop_left]
  have h4 : 4 ≤ (rawPack l).length := by
    unfold rawPack
    simp only [List.length_append]
    have : signL.length = 4 := rfl
    omega
  have h1 := count_at (wh := 0) h.1 hd
  have hd1 := drop_add' hd
  have hi1 := drop_le hd h4
  have h2 := gHead_at (wh := 0) l _ [] (l.flatMap (·.2)) hd1 hi1 (fun s hs => by have := body_le hs; have := h.2.2; omega)
  have hd2 := drop_add' hd1
  have hi2 := drop_le hd1 hi1
  have h3 := gBody_at (wh := 0) l _ [] (by rw [hd2, List.append_nil]) hi2
  unfold guessN
  rw [h1]
  dsimp only
  rw [h2]
  dsimp only
  rw [List.nil_append, h3]
end Go.Proofs.Ytphmjdbdhhbdoaa
