/- RecvqStream: the walk. -/
import Derived.Test.YtmohmcgcggenfaaRq8
import Derived.Test.YtmohmcgcggenfaaRqP4
namespace Go.Proofs.Ytmohmcgcggenfaa
open Go.RowKit
set_option linter.unusedVariables false
set_option linter.unusedSimpArgs false
set_option maxRecDepth 100000
set_option maxHeartbeats 4000000
/-- The number that is awaited. -/
def posOf (a : Int) (g : Nat) (s : RS) : Int := sAdd a (((g + s.data.length : Nat) : Int) + (if s.dn then 1 else 0))
theorem come_ok (a : Int) (ha : 0 ≤ a ∧ a ≤ 4294967295) {S : List UInt8} {g : Nat} {s : RS} (h : Str S g s) (hS : S.length ≤ 600) (from_ to : Nat) (hft : from_ ≤ to) (hto : to ≤ S.length) (htl : to - from_ ≤ 400) (at_ : Int) (hat : at_ = (a + (from_ : Int)) % 4294967296) (fin : Bool) (hfin : fin = true → to = S.length) :
    ∃ s1, Str S g s1 ∧ ACall Try.prog 12 [rq true (posOf a g s) s, .int .u32 at_, .sl true 1 (((S.drop from_).take (to - from_)).map by8), .bool fin] (rq false (posOf a g s1) s1) [] ∧
      (from_ ≤ g + s.data.length → to - g ≤ 100 → g ≤ to → to ≤ g + s1.data.length ∧ (fin = true → s1.dn = true)) ∧ (s.dn = true → s1.dn = true) := by
  have hat2 : 0 ≤ at_ ∧ at_ ≤ 4294967295 := by omega
  have hP : 0 ≤ posOf a g s ∧ posOf a g s ≤ 4294967295 := sAdd_bd _ _
  have hdl : ((S.drop from_).take (to - from_)).length = to - from_ := by simp; omega
  have hle := h.le
  cases hdn : s.dn
  · have hd : sDiff at_ (posOf a g s) = (from_ : Int) - (g + s.data.length : Nat) := by
      unfold posOf; rw [hdn, if_neg (by decide), hat]; unfold sDiff sAdd; omega
    have ha := accept_ok (posOf a g s) hP s h.ok at_ hat2 ((S.drop from_).take (to - from_)) (by omega) fin
    rw [hd] at ha
    obtain ⟨g1, g2, g3⟩ := str_acc h hdn from_ to hft hto hS fin hfin
    refine ⟨_, g1, ?_, g3, fun e => by cases e⟩
    have hp : sAdd (posOf a g s) (s.acc ((from_ : Int) - (g + s.data.length : Nat)) ((S.drop from_).take (to - from_)) fin).2 = posOf a g (s.acc ((from_ : Int) - (g + s.data.length : Nat)) ((S.drop from_).take (to - from_)) fin).1 := by
      unfold posOf
      rw [sAdd_add, hdn, if_neg (by decide), g2]
      congr 1; omega
    rw [hp] at ha; exact ha
  · refine ⟨s, h, accept_done _ hP s h.ok hdn at_ _ fin, fun _ _ _ => ?_, fun _ => hdn⟩
    have := h.dn hdn
    exact ⟨by omega, fun _ => hdn⟩
theorem posOf_read (a : Int) (g : Nat) (s : RS) (k : Nat) (hk : k ≤ s.data.length) : posOf a (g + k) (s.read k) = posOf a g s := by
  unfold posOf RS.read
  dsimp only
  rw [List.length_drop, show g + k + (s.data.length - k) = g + s.data.length by omega]
/-- A cut of the law. -/
structure Cut where
  f : Int
  n : Int
  r : Int
  deriving Inhabited
def cutA (o : Cut) : AV := .agg [.int .i64 o.f, .int .i64 o.n, .int .i64 o.r]
theorem cut_at (l : List Cut) (i : Nat) (h : i < l.length) : (l.map cutA)[((i : Nat) : Int).toNat]?.getD .any = .agg [.int .i64 l[i].f, .int .i64 l[i].n, .int .i64 l[i].r] := at_map cutA l i _ (List.getElem?_eq_getElem h) (by simp)
structure StSt where
  i : Nat
  g : Nat
  s : RS
theorem take_bytes (S : List UInt8) (g : Nat) : ((S.map by8).take ((g : Nat) : Int).toNat).drop (0 : Int).toNat = (S.take g).map by8 := by simp
theorem cut_bytes (S : List UInt8) (f t : Nat) : ((S.map by8).take ((t : Nat) : Int).toNat).drop ((f : Nat) : Int).toNat = ((S.drop f).take (t - f)).map by8 := by
  rw [Int.toNat_natCast, Int.toNat_natCast, ← List.map_take, ← List.map_drop, List.drop_take]
theorem ended_at {S : List UInt8} {g : Nat} {s : RS} (h : Str S g s) (he : (s.dn && decide (s.data.length = 0)) = true) : g = S.length := by
  simp only [Bool.and_eq_true, decide_eq_true_eq] at he
  have := h.dn he.1; omega
theorem no_more {L g i to : Nat} (hpr : 100 * i ≤ g ∨ g = L) (hto : min (L : Int) ((g : Int) + 100) = to) (hts : ¬ to = L) (hj : L / 100 + 1 ≤ i + 1) : False := by omega
theorem one_more {L g i to k : Nat} (hpr : 100 * i ≤ g ∨ g = L) (hto : min (L : Int) ((g : Int) + 100) = to) (hm : to ≤ g + k) (hgk : g + k ≤ L) : 100 * (i + 1) ≤ g + k ∨ g + k = L := by omega
/-- The code behind the first loop. -/
def c2nd : ACode := match c_caravellaw17_RecvqStream with
  | .seq _ (.seq _ (.seq _ (.seq _ (.seq _ x)))) => x
  | _ => .skip
theorem stream2_ok (a : Int) (ha : 0 ≤ a ∧ a ≤ 4294967295) (S : List UInt8) (q1 : S.length ≤ 600) (g : Nat) (s : RS) (hs : Str S g s) :
    WL Try.prog 176 [c2nd] (QF Try.prog Try.f5.results.toList (.bool true) []) ⟨[(0, .int .u32 a), (1, .sl false 1 (S.map by8)), (7, .bptr 0 0), (8, .str (S.take g))], [some [.int .u32 (posOf a g s), .sl false 1 (s.data.map by8), .sl false 2 (s.ps.map (pc (posOf a g s))), .bool s.kn, .int .u32 (s.ev (posOf a g s)), .bool s.dn]], [], 1, 0⟩ := by
  have eS : (S.map by8).length = S.length := by simp
  dsimp only [c2nd, c_caravellaw17_RecvqStream]
  (repeat (first | ((with_reducible show RG _ _ (_ :: _) _ _ _); refine RG.go1 (k := ?_)) | ((with_reducible show DG _ _ (_ :: _) _ _ _ _ _); refine DG.go1 (k := ?_)) | with_reducible apply RG.nil | with_reducible apply W.seq | with_reducible apply W.reg | with_reducible apply W.skip | with_reducible apply W.block | with_reducible apply W.drw | with_reducible apply DG.nil | (with_reducible refine W.done (QB.n ?_))))
  refine W.loop (ι := {q : StSt // q.i ≤ S.length / 100 + 4 ∧ Str S q.g q.s ∧ (100 * q.i ≤ q.g ∨ q.g = S.length) ∧ (1 ≤ q.i → q.s.data = []) ∧ (S.length / 100 + 1 ≤ q.i → q.s.dn = true)}) (fun q => ⟨[(15, .int .i64 q.1.i), (0, .int .u32 a), (1, .sl false 1 (S.map by8)), (7, .bptr 0 0), (8, .str (S.take q.1.g))], [some [.int .u32 (posOf a q.1.g q.1.s), .sl false 1 (q.1.s.data.map by8), .sl false 2 (q.1.s.ps.map (pc (posOf a q.1.g q.1.s))), .bool q.1.s.kn, .int .u32 (q.1.s.ev (posOf a q.1.g q.1.s)), .bool q.1.s.dn]], [], 1, 0⟩) (fun q => S.length / 100 + 4 - q.1.i) ⟨⟨0, g, s⟩, Nat.zero_le _, hs, .inl (Nat.zero_le _), (fun h => absurd h (by dsimp only; omega)), (fun h => absurd h (by dsimp only; omega))⟩ ?_ ?_
  · exact Wk.rn ([0] ) ( [])
  clear hs g s
  intro qe
  obtain ⟨i, ei⟩ : ∃ i, qe.1.i = i := ⟨_, rfl⟩
  obtain ⟨g, eg⟩ : ∃ g, qe.1.g = g := ⟨_, rfl⟩
  obtain ⟨s, es⟩ : ∃ s, qe.1.s = s := ⟨_, rfl⟩
  have hq := qe.2
  rw [ei, eg, es] at hq
  rw [ei, eg, es]
  obtain ⟨hi, hs, hpr, hdt, hdn0⟩ := hq
  have hgl := hs.le
  have hg0 : (S.take g).length = g := by simp; omega
  (repeat (first | ((with_reducible show RG _ _ (_ :: _) _ _ _); refine RG.go1 (k := ?_)) | ((with_reducible show DG _ _ (_ :: _) _ _ _ _ _); refine DG.go1 (k := ?_)) | with_reducible apply RG.nil | with_reducible apply W.seq | with_reducible apply W.reg | with_reducible apply W.skip | with_reducible apply W.block | with_reducible apply W.drw | with_reducible apply DG.nil | (with_reducible refine W.done (QB.n ?_))))
  refine W.cnd (fun h1 => ?_) (fun h1 => ?_)
  · have hlt : i < S.length / 100 + 4 := by simp at h1; omega
    obtain ⟨to, hto⟩ : ∃ t : Nat, min (S.length : Int) ((g : Int) + 100) = t := ⟨_, (Int.toNat_of_nonneg (by omega)).symm⟩
    have hcut := cut_bytes S g to
    (repeat (first | ((with_reducible show RG _ _ (_ :: _) _ _ _); refine RG.go1 (k := ?_)) | ((with_reducible show DG _ _ (_ :: _) _ _ _ _ _); refine DG.go1 (k := ?_)) | with_reducible apply RG.nil | with_reducible apply W.seq | with_reducible apply W.reg | with_reducible apply W.skip | with_reducible apply W.block | with_reducible apply W.drw | with_reducible apply DG.nil | (with_reducible refine W.done (QB.n ?_))))
    rw [hg0, eS, hto]
    (repeat (first | ((with_reducible show RG _ _ (_ :: _) _ _ _); refine RG.go1 (k := ?_)) | ((with_reducible show DG _ _ (_ :: _) _ _ _ _ _); refine DG.go1 (k := ?_)) | with_reducible apply RG.nil | with_reducible apply W.seq | with_reducible apply W.reg | with_reducible apply W.skip | with_reducible apply W.block | with_reducible apply W.drw | with_reducible apply DG.nil | (with_reducible refine W.done (QB.n ?_))))
    have hse := hs.le
    by_cases hts : to = S.length
    · skip
      obtain ⟨s1, hs1, c1, hmore, hdn⟩ := come_ok a ha hs q1 g to (by omega) (by omega) (by omega) ((a + (g : Int)) % 4294967296) rfl true (fun _ => hts)
      obtain ⟨hm1, hm2⟩ := hmore (by omega) (by omega) (by omega)
      have c2 := readq_ok (posOf a g s1) hs1.ok 1000
      have hd1 := hs1.ok.d
      have hk : s1.kR 1000 = s1.data.length := by unfold RS.kR; omega
      obtain ⟨hs2, hT⟩ := str_read hs1 (s1.kR 1000) (by omega) (read_ok hs1.ok _)
      have hPe := posOf_read a g s1 (s1.kR 1000) (by omega)
      have hg2 := hs2.le
      change Str S (g + s1.kR 1000) (s1.read (s1.kR 1000)) at hs2
      change (g + s1.kR 1000) + (s1.read (s1.kR 1000)).data.length ≤ S.length at hg2
      have hda : (s1.read (s1.kR 1000)).data = [] := by unfold RS.read; rw [hk]; simp
      have hdd : (s1.read (s1.kR 1000)).dn = s1.dn := rfl
      rw [← hPe] at c1 c2
      have hdk : (s1.data.take (s1.kR 1000)).length = s1.kR 1000 := by simp; omega
      generalize s1.read (s1.kR 1000) = s2 at *
      generalize s1.kR 1000 = k at *
      have hTl : (S.take (g + k)).length = g + k := by simp; omega
      dsimp only [rq, qv] at c1 c2
      obtain ⟨T, hTd⟩ : ∃ T, S.take (g + k) = T := ⟨_, rfl⟩
      rw [hTd] at hT hTl
      have hnx : 100 * (i + 1) ≤ g + k ∨ g + k = S.length := one_more hpr hto (by rw [hk]; exact hm1) (Nat.le_trans (Nat.le_add_right _ _) hg2)
      have hdnn : S.length / 100 + 1 ≤ i + 1 → s2.dn = true := fun hj => by
        rw [hdd]
        exact hm2 rfl
      have hapl : (S.take g ++ s1.data.take k).length ≤ 600 := by rw [hT, hTl]; omega
      have hsg : (S.take g).length ≤ 600 ∧ (s1.data.take k).length ≤ 600 := by rw [List.length_append] at hapl; omega
      have hto2 : g ≤ to ∧ to ≤ S.length := by omega
      clear hpr hdt hdn0 hmore hm1 hm2 hdn hto hdd hg2 hse h1
      (first | ((with_reducible show RG _ _ (_ :: _) _ _ _); refine RG.ew (sl_of (hcut)) (k := ?_)) | ((with_reducible show DG _ _ (_ :: _) _ _ _ _ _); refine DG.ew (sl_of (hcut)) (k := ?_)))
      (repeat (first | ((with_reducible show RG _ _ (_ :: _) _ _ _); refine RG.go1 (k := ?_)) | ((with_reducible show DG _ _ (_ :: _) _ _ _ _ _); refine DG.go1 (k := ?_)) | with_reducible apply RG.nil | with_reducible apply W.seq | with_reducible apply W.reg | with_reducible apply W.skip | with_reducible apply W.block | with_reducible apply W.drw | with_reducible apply DG.nil | (with_reducible refine W.done (QB.n ?_))))
      (first | ((with_reducible show RG _ _ (_ :: _) _ _ _); refine RG.ca (c1) (k := ?_)) | ((with_reducible show DG _ _ (_ :: _) _ _ _ _ _); refine DG.ca (c1) (k := ?_)))
      (repeat (first | ((with_reducible show RG _ _ (_ :: _) _ _ _); refine RG.go1 (k := ?_)) | ((with_reducible show DG _ _ (_ :: _) _ _ _ _ _); refine DG.go1 (k := ?_)) | with_reducible apply RG.nil | with_reducible apply W.seq | with_reducible apply W.reg | with_reducible apply W.skip | with_reducible apply W.block | with_reducible apply W.drw | with_reducible apply DG.nil | (with_reducible refine W.done (QB.n ?_))))
      (first | ((with_reducible show RG _ _ (_ :: _) _ _ _); refine RG.ca (c2) (k := ?_)) | ((with_reducible show DG _ _ (_ :: _) _ _ _ _ _); refine DG.ca (c2) (k := ?_)))
      (repeat (first | ((with_reducible show RG _ _ (_ :: _) _ _ _); refine RG.go1 (k := ?_)) | ((with_reducible show DG _ _ (_ :: _) _ _ _ _ _); refine DG.go1 (k := ?_)) | with_reducible apply RG.nil | with_reducible apply W.seq | with_reducible apply W.reg | with_reducible apply W.skip | with_reducible apply W.block | with_reducible apply W.drw | with_reducible apply DG.nil | (with_reducible refine W.done (QB.n ?_))))
      rw [hT]
      have qT : ALe (.str T) (.str (S.take (g + k))) := ALe.str hTd.symm
      refine W.done (QL.n (⟨⟨i + 1, g + k, s2⟩, by dsimp only; omega, hs2, hnx, fun _ => hda, hdnn⟩) ?_ ?_)
      · exact Wk.rn ([0] ) ( [])
      · dsimp only; omega
    · skip
      obtain ⟨s1, hs1, c1, hmore, hdn⟩ := come_ok a ha hs q1 g to (by omega) (by omega) (by omega) ((a + (g : Int)) % 4294967296) rfl false (fun e => by cases e)
      obtain ⟨hm1, hm2⟩ := hmore (by omega) (by omega) (by omega)
      have c2 := readq_ok (posOf a g s1) hs1.ok 1000
      have hd1 := hs1.ok.d
      have hk : s1.kR 1000 = s1.data.length := by unfold RS.kR; omega
      obtain ⟨hs2, hT⟩ := str_read hs1 (s1.kR 1000) (by omega) (read_ok hs1.ok _)
      have hPe := posOf_read a g s1 (s1.kR 1000) (by omega)
      have hg2 := hs2.le
      change Str S (g + s1.kR 1000) (s1.read (s1.kR 1000)) at hs2
      change (g + s1.kR 1000) + (s1.read (s1.kR 1000)).data.length ≤ S.length at hg2
      have hda : (s1.read (s1.kR 1000)).data = [] := by unfold RS.read; rw [hk]; simp
      have hdd : (s1.read (s1.kR 1000)).dn = s1.dn := rfl
      rw [← hPe] at c1 c2
      have hdk : (s1.data.take (s1.kR 1000)).length = s1.kR 1000 := by simp; omega
      generalize s1.read (s1.kR 1000) = s2 at *
      generalize s1.kR 1000 = k at *
      have hTl : (S.take (g + k)).length = g + k := by simp; omega
      dsimp only [rq, qv] at c1 c2
      obtain ⟨T, hTd⟩ : ∃ T, S.take (g + k) = T := ⟨_, rfl⟩
      rw [hTd] at hT hTl
      have hnx : 100 * (i + 1) ≤ g + k ∨ g + k = S.length := one_more hpr hto (by rw [hk]; exact hm1) (Nat.le_trans (Nat.le_add_right _ _) hg2)
      have hdnn : S.length / 100 + 1 ≤ i + 1 → s2.dn = true := fun hj => by
        rw [hdd]
        exact (no_more hpr hto hts hj).elim
      have hapl : (S.take g ++ s1.data.take k).length ≤ 600 := by rw [hT, hTl]; omega
      have hsg : (S.take g).length ≤ 600 ∧ (s1.data.take k).length ≤ 600 := by rw [List.length_append] at hapl; omega
      have hto2 : g ≤ to ∧ to ≤ S.length := by omega
      clear hpr hdt hdn0 hmore hm1 hm2 hdn hto hdd hg2 hse h1
      (first | ((with_reducible show RG _ _ (_ :: _) _ _ _); refine RG.ew (sl_of (hcut)) (k := ?_)) | ((with_reducible show DG _ _ (_ :: _) _ _ _ _ _); refine DG.ew (sl_of (hcut)) (k := ?_)))
      (repeat (first | ((with_reducible show RG _ _ (_ :: _) _ _ _); refine RG.go1 (k := ?_)) | ((with_reducible show DG _ _ (_ :: _) _ _ _ _ _); refine DG.go1 (k := ?_)) | with_reducible apply RG.nil | with_reducible apply W.seq | with_reducible apply W.reg | with_reducible apply W.skip | with_reducible apply W.block | with_reducible apply W.drw | with_reducible apply DG.nil | (with_reducible refine W.done (QB.n ?_))))
      (first | ((with_reducible show RG _ _ (_ :: _) _ _ _); refine RG.ca (c1) (k := ?_)) | ((with_reducible show DG _ _ (_ :: _) _ _ _ _ _); refine DG.ca (c1) (k := ?_)))
      (repeat (first | ((with_reducible show RG _ _ (_ :: _) _ _ _); refine RG.go1 (k := ?_)) | ((with_reducible show DG _ _ (_ :: _) _ _ _ _ _); refine DG.go1 (k := ?_)) | with_reducible apply RG.nil | with_reducible apply W.seq | with_reducible apply W.reg | with_reducible apply W.skip | with_reducible apply W.block | with_reducible apply W.drw | with_reducible apply DG.nil | (with_reducible refine W.done (QB.n ?_))))
      (first | ((with_reducible show RG _ _ (_ :: _) _ _ _); refine RG.ca (c2) (k := ?_)) | ((with_reducible show DG _ _ (_ :: _) _ _ _ _ _); refine DG.ca (c2) (k := ?_)))
      (repeat (first | ((with_reducible show RG _ _ (_ :: _) _ _ _); refine RG.go1 (k := ?_)) | ((with_reducible show DG _ _ (_ :: _) _ _ _ _ _); refine DG.go1 (k := ?_)) | with_reducible apply RG.nil | with_reducible apply W.seq | with_reducible apply W.reg | with_reducible apply W.skip | with_reducible apply W.block | with_reducible apply W.drw | with_reducible apply DG.nil | (with_reducible refine W.done (QB.n ?_))))
      rw [hT]
      have qT : ALe (.str T) (.str (S.take (g + k))) := ALe.str hTd.symm
      refine W.done (QL.n (⟨⟨i + 1, g + k, s2⟩, by dsimp only; omega, hs2, hnx, fun _ => hda, hdnn⟩) ?_ ?_)
      · exact Wk.rn ([0] ) ( [])
      · dsimp only; omega
  have hi2 : S.length / 100 + 1 ≤ i := by simp at h1; omega
  have hdn := hdn0 hi2
  have hda := hdt (by omega)
  have hgS : g = S.length := by have := hs.dn hdn; rw [hda] at this; simpa using this
  have hTS : S.take g = S := by rw [hgS, List.take_length]
  have hP : posOf a g s = (a + ((S.length : Int) + 1)) % 4294967296 := by unfold posOf; rw [hda, hdn, if_pos rfl, hgS]; rfl
  have ce := qEnded_ok (posOf a g s) s.data s.ps (posOf a g s) s.kn (s.ev (posOf a g s)) s.dn
  rw [hda, hdn] at ce
  dsimp only [qv] at ce
  rw [hTS, hda, hdn]
  generalize s.ev (posOf a g s) = ev at ce ⊢
  generalize posOf a g s = P at ce hP ⊢
  (refine W.exit ?_; (repeat (first | (with_reducible first | refine QL.x ?_ | refine QC.x ?_ | refine QB.x ?_) | (with_reducible refine QB.o (by decide) ?_))))
  clear h1 hi2 hpr hdt hdn0 hs hda hdn hTS hg0
  (repeat (first | ((with_reducible show RG _ _ (_ :: _) _ _ _); refine RG.go1 (k := ?_)) | ((with_reducible show DG _ _ (_ :: _) _ _ _ _ _); refine DG.go1 (k := ?_)) | with_reducible apply RG.nil | with_reducible apply W.seq | with_reducible apply W.reg | with_reducible apply W.skip | with_reducible apply W.block | with_reducible apply W.drw | with_reducible apply DG.nil | (with_reducible refine W.done (QB.n ?_))))
  (first | ((with_reducible show RG _ _ (_ :: _) _ _ _); refine RG.gca (fun _ => ce) (k := ?_)) | ((with_reducible show DG _ _ (_ :: _) _ _ _ _ _); refine DG.gca (fun _ => ce) (k := ?_)))
  (repeat (first | ((with_reducible show RG _ _ (_ :: _) _ _ _); refine RG.go1 (k := ?_)) | ((with_reducible show DG _ _ (_ :: _) _ _ _ _ _); refine DG.go1 (k := ?_)) | with_reducible apply RG.nil | with_reducible apply W.seq | with_reducible apply W.reg | with_reducible apply W.skip | with_reducible apply W.block | with_reducible apply W.drw | with_reducible apply DG.nil | (with_reducible refine W.done (QB.n ?_))))
  (refine W.ret ?_; (repeat (with_reducible first | refine QB.r ?_ | refine QL.r ?_ | refine QC.r ?_)); refine QF.r ?_)
  exact RetOk.rs (vs := [_]) r_caravellaw17_RecvqStream []
theorem recvqStream_ok (a : Int) (ha : 0 ≤ a ∧ a ≤ 4294967295) (S : List UInt8) (hSL : (S.length : Int) ≤ 9223372036854775807) (l : List Cut) (hL : (l.length : Int) ≤ 9223372036854775807) :
    ACall Try.prog 5 [.int .u32 a, .sl false 1 (S.map by8), .sl false 3 (l.map cutA)] (.bool true) [] := by
  have hl := lives_ok
  have el : (l.map cutA).length = l.length := by simp
  have eS : (S.map by8).length = S.length := by simp
  have cna := qNewS_ok a
  dsimp only [rq, qv] at cna
  by_cases q1 : S.length ≤ 600
  rotate_left
  · refine acall_walk (N := 176) Try.func5 (by kernel_rfl) p_caravellaw17_RecvqStream rfl ?_; unfold c_caravellaw17_RecvqStream; dsimp only [enum, Nat.reduceAdd]
    (repeat (first | ((with_reducible show RG _ _ (_ :: _) _ _ _); refine RG.go1 (k := ?_)) | ((with_reducible show DG _ _ (_ :: _) _ _ _ _ _); refine DG.go1 (k := ?_)) | with_reducible apply RG.nil | with_reducible apply W.seq | with_reducible apply W.reg | with_reducible apply W.skip | with_reducible apply W.block | with_reducible apply W.drw | with_reducible apply DG.nil | (with_reducible refine W.done (QB.n ?_))))
    (first | ((with_reducible show RG _ _ (_ :: _) _ _ _); refine RG.ca (hl) (k := ?_)) | ((with_reducible show DG _ _ (_ :: _) _ _ _ _ _); refine DG.ca (hl) (k := ?_)))
    (repeat (first | ((with_reducible show RG _ _ (_ :: _) _ _ _); refine RG.go1 (k := ?_)) | ((with_reducible show DG _ _ (_ :: _) _ _ _ _ _); refine DG.go1 (k := ?_)) | with_reducible apply RG.nil | with_reducible apply W.seq | with_reducible apply W.reg | with_reducible apply W.skip | with_reducible apply W.block | with_reducible apply W.drw | with_reducible apply DG.nil | (with_reducible refine W.done (QB.n ?_))))
    refine W.cndT ?_
    (repeat (first | ((with_reducible show RG _ _ (_ :: _) _ _ _); refine RG.go1 (k := ?_)) | ((with_reducible show DG _ _ (_ :: _) _ _ _ _ _); refine DG.go1 (k := ?_)) | with_reducible apply RG.nil | with_reducible apply W.seq | with_reducible apply W.reg | with_reducible apply W.skip | with_reducible apply W.block | with_reducible apply W.drw | with_reducible apply DG.nil | (with_reducible refine W.done (QB.n ?_))))
    (first | ((with_reducible show RG _ _ (_ :: _) _ _ _); refine RG.ca (hl) (k := ?_)) | ((with_reducible show DG _ _ (_ :: _) _ _ _ _ _); refine DG.ca (hl) (k := ?_)))
    (repeat (first | ((with_reducible show RG _ _ (_ :: _) _ _ _); refine RG.go1 (k := ?_)) | ((with_reducible show DG _ _ (_ :: _) _ _ _ _ _); refine DG.go1 (k := ?_)) | with_reducible apply RG.nil | with_reducible apply W.seq | with_reducible apply W.reg | with_reducible apply W.skip | with_reducible apply W.block | with_reducible apply W.drw | with_reducible apply DG.nil | (with_reducible refine W.done (QB.n ?_))))
    (refine W.ret ?_; (repeat (with_reducible first | refine QB.r ?_ | refine QL.r ?_ | refine QC.r ?_)); refine QF.r ?_)
    exact RetOk.rs (vs := [_]) r_caravellaw17_RecvqStream []
  by_cases q2 : l.length ≤ 80
  rotate_left
  · refine acall_walk (N := 176) Try.func5 (by kernel_rfl) p_caravellaw17_RecvqStream rfl ?_; unfold c_caravellaw17_RecvqStream; dsimp only [enum, Nat.reduceAdd]
    (repeat (first | ((with_reducible show RG _ _ (_ :: _) _ _ _); refine RG.go1 (k := ?_)) | ((with_reducible show DG _ _ (_ :: _) _ _ _ _ _); refine DG.go1 (k := ?_)) | with_reducible apply RG.nil | with_reducible apply W.seq | with_reducible apply W.reg | with_reducible apply W.skip | with_reducible apply W.block | with_reducible apply W.drw | with_reducible apply DG.nil | (with_reducible refine W.done (QB.n ?_))))
    (first | ((with_reducible show RG _ _ (_ :: _) _ _ _); refine RG.ca (hl) (k := ?_)) | ((with_reducible show DG _ _ (_ :: _) _ _ _ _ _); refine DG.ca (hl) (k := ?_)))
    (repeat (first | ((with_reducible show RG _ _ (_ :: _) _ _ _); refine RG.go1 (k := ?_)) | ((with_reducible show DG _ _ (_ :: _) _ _ _ _ _); refine DG.go1 (k := ?_)) | with_reducible apply RG.nil | with_reducible apply W.seq | with_reducible apply W.reg | with_reducible apply W.skip | with_reducible apply W.block | with_reducible apply W.drw | with_reducible apply DG.nil | (with_reducible refine W.done (QB.n ?_))))
    refine W.cndT ?_
    (repeat (first | ((with_reducible show RG _ _ (_ :: _) _ _ _); refine RG.go1 (k := ?_)) | ((with_reducible show DG _ _ (_ :: _) _ _ _ _ _); refine DG.go1 (k := ?_)) | with_reducible apply RG.nil | with_reducible apply W.seq | with_reducible apply W.reg | with_reducible apply W.skip | with_reducible apply W.block | with_reducible apply W.drw | with_reducible apply DG.nil | (with_reducible refine W.done (QB.n ?_))))
    (first | ((with_reducible show RG _ _ (_ :: _) _ _ _); refine RG.ca (hl) (k := ?_)) | ((with_reducible show DG _ _ (_ :: _) _ _ _ _ _); refine DG.ca (hl) (k := ?_)))
    (repeat (first | ((with_reducible show RG _ _ (_ :: _) _ _ _); refine RG.go1 (k := ?_)) | ((with_reducible show DG _ _ (_ :: _) _ _ _ _ _); refine DG.go1 (k := ?_)) | with_reducible apply RG.nil | with_reducible apply W.seq | with_reducible apply W.reg | with_reducible apply W.skip | with_reducible apply W.block | with_reducible apply W.drw | with_reducible apply DG.nil | (with_reducible refine W.done (QB.n ?_))))
    (refine W.ret ?_; (repeat (with_reducible first | refine QB.r ?_ | refine QL.r ?_ | refine QC.r ?_)); refine QF.r ?_)
    exact RetOk.rs (vs := [_]) r_caravellaw17_RecvqStream []
  have hp0 : posOf a 0 RS.new = a := by unfold posOf RS.new; simp; exact sAdd_zero a ha
  refine acall_walk (N := 176) Try.func5 (by kernel_rfl) p_caravellaw17_RecvqStream rfl ?_; unfold c_caravellaw17_RecvqStream; dsimp only [enum, Nat.reduceAdd]
  (repeat (first | ((with_reducible show RG _ _ (_ :: _) _ _ _); refine RG.go1 (k := ?_)) | ((with_reducible show DG _ _ (_ :: _) _ _ _ _ _); refine DG.go1 (k := ?_)) | with_reducible apply RG.nil | with_reducible apply W.seq | with_reducible apply W.reg | with_reducible apply W.skip | with_reducible apply W.block | with_reducible apply W.drw | with_reducible apply DG.nil | (with_reducible refine W.done (QB.n ?_))))
  (first | ((with_reducible show RG _ _ (_ :: _) _ _ _); refine RG.ca (hl) (k := ?_)) | ((with_reducible show DG _ _ (_ :: _) _ _ _ _ _); refine DG.ca (hl) (k := ?_)))
  (repeat (first | ((with_reducible show RG _ _ (_ :: _) _ _ _); refine RG.go1 (k := ?_)) | ((with_reducible show DG _ _ (_ :: _) _ _ _ _ _); refine DG.go1 (k := ?_)) | with_reducible apply RG.nil | with_reducible apply W.seq | with_reducible apply W.reg | with_reducible apply W.skip | with_reducible apply W.block | with_reducible apply W.drw | with_reducible apply DG.nil | (with_reducible refine W.done (QB.n ?_))))
  refine W.cndF ?_
  (repeat (first | ((with_reducible show RG _ _ (_ :: _) _ _ _); refine RG.go1 (k := ?_)) | ((with_reducible show DG _ _ (_ :: _) _ _ _ _ _); refine DG.go1 (k := ?_)) | with_reducible apply RG.nil | with_reducible apply W.seq | with_reducible apply W.reg | with_reducible apply W.skip | with_reducible apply W.block | with_reducible apply W.drw | with_reducible apply DG.nil | (with_reducible refine W.done (QB.n ?_))))
  (first | ((with_reducible show RG _ _ (_ :: _) _ _ _); refine RG.ca (cna) (k := ?_)) | ((with_reducible show DG _ _ (_ :: _) _ _ _ _ _); refine DG.ca (cna) (k := ?_)))
  (repeat (first | ((with_reducible show RG _ _ (_ :: _) _ _ _); refine RG.go1 (k := ?_)) | ((with_reducible show DG _ _ (_ :: _) _ _ _ _ _); refine DG.go1 (k := ?_)) | with_reducible apply RG.nil | with_reducible apply W.seq | with_reducible apply W.reg | with_reducible apply W.skip | with_reducible apply W.block | with_reducible apply W.drw | with_reducible apply DG.nil | (with_reducible refine W.done (QB.n ?_))))
  refine W.loop (ι := {q : StSt // q.i ≤ l.length ∧ Str S q.g q.s}) (fun q => ⟨[(37, .int .i64 q.1.i), (36, .int .i64 l.length), (35, .sl false 3 (l.map cutA)), (0, .int .u32 a), (1, .sl false 1 (S.map by8)), (7, .bptr 0 0), (8, .str (S.take q.1.g))], [some [.int .u32 (posOf a q.1.g q.1.s), .sl false 1 (q.1.s.data.map by8), .sl false 2 (q.1.s.ps.map (pc (posOf a q.1.g q.1.s))), .bool q.1.s.kn, .int .u32 (q.1.s.ev (posOf a q.1.g q.1.s)), .bool q.1.s.dn]], [], 1, 0⟩) (fun q => l.length - q.1.i) ⟨⟨0, 0, RS.new⟩, Nat.zero_le _, str_new S⟩ ?_ ?_
  · dsimp only
    rw [hp0]
    exact Wk.rn ([0] ) ( [])
  rintro ⟨⟨i, g, s⟩, hi, hs⟩
  dsimp only at hi hs ⊢
  have hgl := hs.le
  (repeat (first | ((with_reducible show RG _ _ (_ :: _) _ _ _); refine RG.go1 (k := ?_)) | ((with_reducible show DG _ _ (_ :: _) _ _ _ _ _); refine DG.go1 (k := ?_)) | with_reducible apply RG.nil | with_reducible apply W.seq | with_reducible apply W.reg | with_reducible apply W.skip | with_reducible apply W.block | with_reducible apply W.drw | with_reducible apply DG.nil | (with_reducible refine W.done (QB.n ?_))))
  refine W.cnd (fun h1 => ?_) (fun h1 => ?_)
  · have hlt : i < l.length := by simpa using h1
    have hE := cut_at l i hlt
    generalize l[i] = o at hE
    obtain ⟨z1, z2, n⟩ := o
    dsimp only at hE
    have hfr2 := Int.emod_lt_of_pos (z1 % 18446744073709551616) (show (0 : Int) < ((S.map by8).length : Int) + 1 by omega)
    have hfr3 := Int.emod_nonneg (z1 % 18446744073709551616) (show ((S.map by8).length : Int) + 1 ≠ 0 by omega)
    obtain ⟨from_, hfr⟩ : ∃ f : Nat, z1 % 18446744073709551616 % (((S.map by8).length : Int) + 1) = f := ⟨_, (Int.toNat_of_nonneg hfr3).symm⟩
    obtain ⟨to, hto⟩ : ∃ t : Nat, min (S.length : Int) ((from_ : Int) + z2 % 18446744073709551616 % 200) = t := ⟨_, (Int.toNat_of_nonneg (by omega)).symm⟩
    (repeat (first | ((with_reducible show RG _ _ (_ :: _) _ _ _); refine RG.go1 (k := ?_)) | ((with_reducible show DG _ _ (_ :: _) _ _ _ _ _); refine DG.go1 (k := ?_)) | with_reducible apply RG.nil | with_reducible apply W.seq | with_reducible apply W.reg | with_reducible apply W.skip | with_reducible apply W.block | with_reducible apply W.drw | with_reducible apply DG.nil | (with_reducible refine W.done (QB.n ?_))))
    (first | ((with_reducible show RG _ _ (_ :: _) _ _ _); refine RG.ew (cptr_of (hE) (by (conv => lhs; whnf) <;> exact rfl)) (k := ?_)) | ((with_reducible show DG _ _ (_ :: _) _ _ _ _ _); refine DG.ew (cptr_of (hE) (by (conv => lhs; whnf) <;> exact rfl)) (k := ?_)))
    (repeat (first | ((with_reducible show RG _ _ (_ :: _) _ _ _); refine RG.go1 (k := ?_)) | ((with_reducible show DG _ _ (_ :: _) _ _ _ _ _); refine DG.go1 (k := ?_)) | with_reducible apply RG.nil | with_reducible apply W.seq | with_reducible apply W.reg | with_reducible apply W.skip | with_reducible apply W.block | with_reducible apply W.drw | with_reducible apply DG.nil | (with_reducible refine W.done (QB.n ?_))))
    rw [hfr, eS, hto]
    rw [hfr] at hfr2 hfr3
    have hft : from_ ≤ to := by omega
    have htl2 : to ≤ S.length := by omega
    have htl3 : to - from_ ≤ 200 := by omega
    have hcut := cut_bytes S from_ to
    clear hto hfr
    by_cases hts : to = S.length
    · skip
      obtain ⟨s1, hs1, c1, _, _⟩ := come_ok a ha hs q1 from_ to hft htl2 (by omega) ((a + (from_ : Int)) % 4294967296) rfl true (fun _ => hts)
      have c2 := readq_ok (posOf a g s1) hs1.ok n
      have hk : s1.kR n ≤ s1.data.length := by unfold RS.kR; omega
      obtain ⟨hs2, hT⟩ := str_read hs1 (s1.kR n) hk (read_ok hs1.ok _)
      have hPe := posOf_read a g s1 (s1.kR n) hk
      have hg2 := hs2.le
      have hd2 := hs2.ok.d
      change Str S (g + s1.kR n) (s1.read (s1.kR n)) at hs2
      change (g + s1.kR n) + (s1.read (s1.kR n)).data.length ≤ S.length at hg2
      change (s1.read (s1.kR n)).data.length ≤ 256 at hd2
      rw [← hPe] at c1 c2
      have hdk : (s1.data.take (s1.kR n)).length = s1.kR n := by simp; omega
      generalize s1.read (s1.kR n) = s2 at *
      generalize s1.kR n = k at *
      have hTl : (S.take (g + k)).length = g + k := by simp; omega
      have hc2 := take_bytes S (S.take (g + k)).length
      rw [hTl] at hc2
      have hapl : (S.take g ++ s1.data.take k).length = g + k := by rw [hT, hTl]
      have ce := qEnded_ok (posOf a (g + k) s2) s2.data s2.ps (posOf a (g + k) s2) s2.kn (s2.ev (posOf a (g + k) s2)) s2.dn
      have e2 : (s2.data.map by8).length = s2.data.length := by simp
      dsimp only [rq, qv] at c1 c2 ce
      obtain ⟨T, hTd⟩ : ∃ T, S.take (g + k) = T := ⟨_, rfl⟩
      rw [hTd] at hT hTl hc2
      cases hed : (s2.dn && decide (s2.data.length = 0))
      · rw [hed] at ce
        (first | ((with_reducible show RG _ _ (_ :: _) _ _ _); refine RG.ew (sl_of (hcut)) (k := ?_)) | ((with_reducible show DG _ _ (_ :: _) _ _ _ _ _); refine DG.ew (sl_of (hcut)) (k := ?_)))
        (repeat (first | ((with_reducible show RG _ _ (_ :: _) _ _ _); refine RG.go1 (k := ?_)) | ((with_reducible show DG _ _ (_ :: _) _ _ _ _ _); refine DG.go1 (k := ?_)) | with_reducible apply RG.nil | with_reducible apply W.seq | with_reducible apply W.reg | with_reducible apply W.skip | with_reducible apply W.block | with_reducible apply W.drw | with_reducible apply DG.nil | (with_reducible refine W.done (QB.n ?_))))
        (first | ((with_reducible show RG _ _ (_ :: _) _ _ _); refine RG.ca (c1) (k := ?_)) | ((with_reducible show DG _ _ (_ :: _) _ _ _ _ _); refine DG.ca (c1) (k := ?_)))
        (repeat (first | ((with_reducible show RG _ _ (_ :: _) _ _ _); refine RG.go1 (k := ?_)) | ((with_reducible show DG _ _ (_ :: _) _ _ _ _ _); refine DG.go1 (k := ?_)) | with_reducible apply RG.nil | with_reducible apply W.seq | with_reducible apply W.reg | with_reducible apply W.skip | with_reducible apply W.block | with_reducible apply W.drw | with_reducible apply DG.nil | (with_reducible refine W.done (QB.n ?_))))
        (first | ((with_reducible show RG _ _ (_ :: _) _ _ _); refine RG.ca (c2) (k := ?_)) | ((with_reducible show DG _ _ (_ :: _) _ _ _ _ _); refine DG.ca (c2) (k := ?_)))
        (repeat (first | ((with_reducible show RG _ _ (_ :: _) _ _ _); refine RG.go1 (k := ?_)) | ((with_reducible show DG _ _ (_ :: _) _ _ _ _ _); refine DG.go1 (k := ?_)) | with_reducible apply RG.nil | with_reducible apply W.seq | with_reducible apply W.reg | with_reducible apply W.skip | with_reducible apply W.block | with_reducible apply W.drw | with_reducible apply DG.nil | (with_reducible refine W.done (QB.n ?_))))
        rw [hT]
        rw [hTl]
        (first | ((with_reducible show RG _ _ (_ :: _) _ _ _); refine RG.ewg (sl_of hc2) (k := ?_)) | ((with_reducible show DG _ _ (_ :: _) _ _ _ _ _); refine DG.ewg (sl_of hc2) (k := ?_)))
        (repeat (first | ((with_reducible show RG _ _ (_ :: _) _ _ _); refine RG.go1 (k := ?_)) | ((with_reducible show DG _ _ (_ :: _) _ _ _ _ _); refine DG.go1 (k := ?_)) | with_reducible apply RG.nil | with_reducible apply W.seq | with_reducible apply W.reg | with_reducible apply W.skip | with_reducible apply W.block | with_reducible apply W.drw | with_reducible apply DG.nil | (with_reducible refine W.done (QB.n ?_))))
        (first | ((with_reducible show RG _ _ (_ :: _) _ _ _); refine RG.gca (fun _ => ce) (k := ?_)) | ((with_reducible show DG _ _ (_ :: _) _ _ _ _ _); refine DG.gca (fun _ => ce) (k := ?_)))
        (repeat (first | ((with_reducible show RG _ _ (_ :: _) _ _ _); refine RG.go1 (k := ?_)) | ((with_reducible show DG _ _ (_ :: _) _ _ _ _ _); refine DG.go1 (k := ?_)) | with_reducible apply RG.nil | with_reducible apply W.seq | with_reducible apply W.reg | with_reducible apply W.skip | with_reducible apply W.block | with_reducible apply W.drw | with_reducible apply DG.nil | (with_reducible refine W.done (QB.n ?_))))
        refine W.cndF ?_
        (repeat (first | ((with_reducible show RG _ _ (_ :: _) _ _ _); refine RG.go1 (k := ?_)) | ((with_reducible show DG _ _ (_ :: _) _ _ _ _ _); refine DG.go1 (k := ?_)) | with_reducible apply RG.nil | with_reducible apply W.seq | with_reducible apply W.reg | with_reducible apply W.skip | with_reducible apply W.block | with_reducible apply W.drw | with_reducible apply DG.nil | (with_reducible refine W.done (QB.n ?_))))
        have qT : ALe (.str T) (.str (S.take (g + k))) := ALe.str hTd.symm
        refine W.done (QL.n (⟨⟨i + 1, g + k, s2⟩, by dsimp only; omega, hs2⟩) ?_ ?_)
        · exact Wk.rn ([0] ) ( [])
        · dsimp only; omega
      · rw [hed] at ce
        have hgk := ended_at hs2 hed
        (first | ((with_reducible show RG _ _ (_ :: _) _ _ _); refine RG.ew (sl_of (hcut)) (k := ?_)) | ((with_reducible show DG _ _ (_ :: _) _ _ _ _ _); refine DG.ew (sl_of (hcut)) (k := ?_)))
        (repeat (first | ((with_reducible show RG _ _ (_ :: _) _ _ _); refine RG.go1 (k := ?_)) | ((with_reducible show DG _ _ (_ :: _) _ _ _ _ _); refine DG.go1 (k := ?_)) | with_reducible apply RG.nil | with_reducible apply W.seq | with_reducible apply W.reg | with_reducible apply W.skip | with_reducible apply W.block | with_reducible apply W.drw | with_reducible apply DG.nil | (with_reducible refine W.done (QB.n ?_))))
        (first | ((with_reducible show RG _ _ (_ :: _) _ _ _); refine RG.ca (c1) (k := ?_)) | ((with_reducible show DG _ _ (_ :: _) _ _ _ _ _); refine DG.ca (c1) (k := ?_)))
        (repeat (first | ((with_reducible show RG _ _ (_ :: _) _ _ _); refine RG.go1 (k := ?_)) | ((with_reducible show DG _ _ (_ :: _) _ _ _ _ _); refine DG.go1 (k := ?_)) | with_reducible apply RG.nil | with_reducible apply W.seq | with_reducible apply W.reg | with_reducible apply W.skip | with_reducible apply W.block | with_reducible apply W.drw | with_reducible apply DG.nil | (with_reducible refine W.done (QB.n ?_))))
        (first | ((with_reducible show RG _ _ (_ :: _) _ _ _); refine RG.ca (c2) (k := ?_)) | ((with_reducible show DG _ _ (_ :: _) _ _ _ _ _); refine DG.ca (c2) (k := ?_)))
        (repeat (first | ((with_reducible show RG _ _ (_ :: _) _ _ _); refine RG.go1 (k := ?_)) | ((with_reducible show DG _ _ (_ :: _) _ _ _ _ _); refine DG.go1 (k := ?_)) | with_reducible apply RG.nil | with_reducible apply W.seq | with_reducible apply W.reg | with_reducible apply W.skip | with_reducible apply W.block | with_reducible apply W.drw | with_reducible apply DG.nil | (with_reducible refine W.done (QB.n ?_))))
        rw [hT]
        rw [hTl]
        (first | ((with_reducible show RG _ _ (_ :: _) _ _ _); refine RG.ewg (sl_of hc2) (k := ?_)) | ((with_reducible show DG _ _ (_ :: _) _ _ _ _ _); refine DG.ewg (sl_of hc2) (k := ?_)))
        (repeat (first | ((with_reducible show RG _ _ (_ :: _) _ _ _); refine RG.go1 (k := ?_)) | ((with_reducible show DG _ _ (_ :: _) _ _ _ _ _); refine DG.go1 (k := ?_)) | with_reducible apply RG.nil | with_reducible apply W.seq | with_reducible apply W.reg | with_reducible apply W.skip | with_reducible apply W.block | with_reducible apply W.drw | with_reducible apply DG.nil | (with_reducible refine W.done (QB.n ?_))))
        (first | ((with_reducible show RG _ _ (_ :: _) _ _ _); refine RG.gca (fun _ => ce) (k := ?_)) | ((with_reducible show DG _ _ (_ :: _) _ _ _ _ _); refine DG.gca (fun _ => ce) (k := ?_)))
        (repeat (first | ((with_reducible show RG _ _ (_ :: _) _ _ _); refine RG.go1 (k := ?_)) | ((with_reducible show DG _ _ (_ :: _) _ _ _ _ _); refine DG.go1 (k := ?_)) | with_reducible apply RG.nil | with_reducible apply W.seq | with_reducible apply W.reg | with_reducible apply W.skip | with_reducible apply W.block | with_reducible apply W.drw | with_reducible apply DG.nil | (with_reducible refine W.done (QB.n ?_))))
        refine W.cndF ?_
        (repeat (first | ((with_reducible show RG _ _ (_ :: _) _ _ _); refine RG.go1 (k := ?_)) | ((with_reducible show DG _ _ (_ :: _) _ _ _ _ _); refine DG.go1 (k := ?_)) | with_reducible apply RG.nil | with_reducible apply W.seq | with_reducible apply W.reg | with_reducible apply W.skip | with_reducible apply W.block | with_reducible apply W.drw | with_reducible apply DG.nil | (with_reducible refine W.done (QB.n ?_))))
        have qT : ALe (.str T) (.str (S.take (g + k))) := ALe.str hTd.symm
        refine W.done (QL.n (⟨⟨i + 1, g + k, s2⟩, by dsimp only; omega, hs2⟩) ?_ ?_)
        · exact Wk.rn ([0] ) ( [])
        · dsimp only; omega
    · skip
      obtain ⟨s1, hs1, c1, _, _⟩ := come_ok a ha hs q1 from_ to hft htl2 (by omega) ((a + (from_ : Int)) % 4294967296) rfl false (fun e => by cases e)
      have c2 := readq_ok (posOf a g s1) hs1.ok n
      have hk : s1.kR n ≤ s1.data.length := by unfold RS.kR; omega
      obtain ⟨hs2, hT⟩ := str_read hs1 (s1.kR n) hk (read_ok hs1.ok _)
      have hPe := posOf_read a g s1 (s1.kR n) hk
      have hg2 := hs2.le
      have hd2 := hs2.ok.d
      change Str S (g + s1.kR n) (s1.read (s1.kR n)) at hs2
      change (g + s1.kR n) + (s1.read (s1.kR n)).data.length ≤ S.length at hg2
      change (s1.read (s1.kR n)).data.length ≤ 256 at hd2
      rw [← hPe] at c1 c2
      have hdk : (s1.data.take (s1.kR n)).length = s1.kR n := by simp; omega
      generalize s1.read (s1.kR n) = s2 at *
      generalize s1.kR n = k at *
      have hTl : (S.take (g + k)).length = g + k := by simp; omega
      have hc2 := take_bytes S (S.take (g + k)).length
      rw [hTl] at hc2
      have hapl : (S.take g ++ s1.data.take k).length = g + k := by rw [hT, hTl]
      have ce := qEnded_ok (posOf a (g + k) s2) s2.data s2.ps (posOf a (g + k) s2) s2.kn (s2.ev (posOf a (g + k) s2)) s2.dn
      have e2 : (s2.data.map by8).length = s2.data.length := by simp
      dsimp only [rq, qv] at c1 c2 ce
      obtain ⟨T, hTd⟩ : ∃ T, S.take (g + k) = T := ⟨_, rfl⟩
      rw [hTd] at hT hTl hc2
      cases hed : (s2.dn && decide (s2.data.length = 0))
      · rw [hed] at ce
        (first | ((with_reducible show RG _ _ (_ :: _) _ _ _); refine RG.ew (sl_of (hcut)) (k := ?_)) | ((with_reducible show DG _ _ (_ :: _) _ _ _ _ _); refine DG.ew (sl_of (hcut)) (k := ?_)))
        (repeat (first | ((with_reducible show RG _ _ (_ :: _) _ _ _); refine RG.go1 (k := ?_)) | ((with_reducible show DG _ _ (_ :: _) _ _ _ _ _); refine DG.go1 (k := ?_)) | with_reducible apply RG.nil | with_reducible apply W.seq | with_reducible apply W.reg | with_reducible apply W.skip | with_reducible apply W.block | with_reducible apply W.drw | with_reducible apply DG.nil | (with_reducible refine W.done (QB.n ?_))))
        (first | ((with_reducible show RG _ _ (_ :: _) _ _ _); refine RG.ca (c1) (k := ?_)) | ((with_reducible show DG _ _ (_ :: _) _ _ _ _ _); refine DG.ca (c1) (k := ?_)))
        (repeat (first | ((with_reducible show RG _ _ (_ :: _) _ _ _); refine RG.go1 (k := ?_)) | ((with_reducible show DG _ _ (_ :: _) _ _ _ _ _); refine DG.go1 (k := ?_)) | with_reducible apply RG.nil | with_reducible apply W.seq | with_reducible apply W.reg | with_reducible apply W.skip | with_reducible apply W.block | with_reducible apply W.drw | with_reducible apply DG.nil | (with_reducible refine W.done (QB.n ?_))))
        (first | ((with_reducible show RG _ _ (_ :: _) _ _ _); refine RG.ca (c2) (k := ?_)) | ((with_reducible show DG _ _ (_ :: _) _ _ _ _ _); refine DG.ca (c2) (k := ?_)))
        (repeat (first | ((with_reducible show RG _ _ (_ :: _) _ _ _); refine RG.go1 (k := ?_)) | ((with_reducible show DG _ _ (_ :: _) _ _ _ _ _); refine DG.go1 (k := ?_)) | with_reducible apply RG.nil | with_reducible apply W.seq | with_reducible apply W.reg | with_reducible apply W.skip | with_reducible apply W.block | with_reducible apply W.drw | with_reducible apply DG.nil | (with_reducible refine W.done (QB.n ?_))))
        rw [hT]
        rw [hTl]
        (first | ((with_reducible show RG _ _ (_ :: _) _ _ _); refine RG.ewg (sl_of hc2) (k := ?_)) | ((with_reducible show DG _ _ (_ :: _) _ _ _ _ _); refine DG.ewg (sl_of hc2) (k := ?_)))
        (repeat (first | ((with_reducible show RG _ _ (_ :: _) _ _ _); refine RG.go1 (k := ?_)) | ((with_reducible show DG _ _ (_ :: _) _ _ _ _ _); refine DG.go1 (k := ?_)) | with_reducible apply RG.nil | with_reducible apply W.seq | with_reducible apply W.reg | with_reducible apply W.skip | with_reducible apply W.block | with_reducible apply W.drw | with_reducible apply DG.nil | (with_reducible refine W.done (QB.n ?_))))
        (first | ((with_reducible show RG _ _ (_ :: _) _ _ _); refine RG.gca (fun _ => ce) (k := ?_)) | ((with_reducible show DG _ _ (_ :: _) _ _ _ _ _); refine DG.gca (fun _ => ce) (k := ?_)))
        (repeat (first | ((with_reducible show RG _ _ (_ :: _) _ _ _); refine RG.go1 (k := ?_)) | ((with_reducible show DG _ _ (_ :: _) _ _ _ _ _); refine DG.go1 (k := ?_)) | with_reducible apply RG.nil | with_reducible apply W.seq | with_reducible apply W.reg | with_reducible apply W.skip | with_reducible apply W.block | with_reducible apply W.drw | with_reducible apply DG.nil | (with_reducible refine W.done (QB.n ?_))))
        refine W.cndF ?_
        (repeat (first | ((with_reducible show RG _ _ (_ :: _) _ _ _); refine RG.go1 (k := ?_)) | ((with_reducible show DG _ _ (_ :: _) _ _ _ _ _); refine DG.go1 (k := ?_)) | with_reducible apply RG.nil | with_reducible apply W.seq | with_reducible apply W.reg | with_reducible apply W.skip | with_reducible apply W.block | with_reducible apply W.drw | with_reducible apply DG.nil | (with_reducible refine W.done (QB.n ?_))))
        have qT : ALe (.str T) (.str (S.take (g + k))) := ALe.str hTd.symm
        refine W.done (QL.n (⟨⟨i + 1, g + k, s2⟩, by dsimp only; omega, hs2⟩) ?_ ?_)
        · exact Wk.rn ([0] ) ( [])
        · dsimp only; omega
      · rw [hed] at ce
        have hgk := ended_at hs2 hed
        (first | ((with_reducible show RG _ _ (_ :: _) _ _ _); refine RG.ew (sl_of (hcut)) (k := ?_)) | ((with_reducible show DG _ _ (_ :: _) _ _ _ _ _); refine DG.ew (sl_of (hcut)) (k := ?_)))
        (repeat (first | ((with_reducible show RG _ _ (_ :: _) _ _ _); refine RG.go1 (k := ?_)) | ((with_reducible show DG _ _ (_ :: _) _ _ _ _ _); refine DG.go1 (k := ?_)) | with_reducible apply RG.nil | with_reducible apply W.seq | with_reducible apply W.reg | with_reducible apply W.skip | with_reducible apply W.block | with_reducible apply W.drw | with_reducible apply DG.nil | (with_reducible refine W.done (QB.n ?_))))
        (first | ((with_reducible show RG _ _ (_ :: _) _ _ _); refine RG.ca (c1) (k := ?_)) | ((with_reducible show DG _ _ (_ :: _) _ _ _ _ _); refine DG.ca (c1) (k := ?_)))
        (repeat (first | ((with_reducible show RG _ _ (_ :: _) _ _ _); refine RG.go1 (k := ?_)) | ((with_reducible show DG _ _ (_ :: _) _ _ _ _ _); refine DG.go1 (k := ?_)) | with_reducible apply RG.nil | with_reducible apply W.seq | with_reducible apply W.reg | with_reducible apply W.skip | with_reducible apply W.block | with_reducible apply W.drw | with_reducible apply DG.nil | (with_reducible refine W.done (QB.n ?_))))
        (first | ((with_reducible show RG _ _ (_ :: _) _ _ _); refine RG.ca (c2) (k := ?_)) | ((with_reducible show DG _ _ (_ :: _) _ _ _ _ _); refine DG.ca (c2) (k := ?_)))
        (repeat (first | ((with_reducible show RG _ _ (_ :: _) _ _ _); refine RG.go1 (k := ?_)) | ((with_reducible show DG _ _ (_ :: _) _ _ _ _ _); refine DG.go1 (k := ?_)) | with_reducible apply RG.nil | with_reducible apply W.seq | with_reducible apply W.reg | with_reducible apply W.skip | with_reducible apply W.block | with_reducible apply W.drw | with_reducible apply DG.nil | (with_reducible refine W.done (QB.n ?_))))
        rw [hT]
        rw [hTl]
        (first | ((with_reducible show RG _ _ (_ :: _) _ _ _); refine RG.ewg (sl_of hc2) (k := ?_)) | ((with_reducible show DG _ _ (_ :: _) _ _ _ _ _); refine DG.ewg (sl_of hc2) (k := ?_)))
        (repeat (first | ((with_reducible show RG _ _ (_ :: _) _ _ _); refine RG.go1 (k := ?_)) | ((with_reducible show DG _ _ (_ :: _) _ _ _ _ _); refine DG.go1 (k := ?_)) | with_reducible apply RG.nil | with_reducible apply W.seq | with_reducible apply W.reg | with_reducible apply W.skip | with_reducible apply W.block | with_reducible apply W.drw | with_reducible apply DG.nil | (with_reducible refine W.done (QB.n ?_))))
        (first | ((with_reducible show RG _ _ (_ :: _) _ _ _); refine RG.gca (fun _ => ce) (k := ?_)) | ((with_reducible show DG _ _ (_ :: _) _ _ _ _ _); refine DG.gca (fun _ => ce) (k := ?_)))
        (repeat (first | ((with_reducible show RG _ _ (_ :: _) _ _ _); refine RG.go1 (k := ?_)) | ((with_reducible show DG _ _ (_ :: _) _ _ _ _ _); refine DG.go1 (k := ?_)) | with_reducible apply RG.nil | with_reducible apply W.seq | with_reducible apply W.reg | with_reducible apply W.skip | with_reducible apply W.block | with_reducible apply W.drw | with_reducible apply DG.nil | (with_reducible refine W.done (QB.n ?_))))
        refine W.cndF ?_
        (repeat (first | ((with_reducible show RG _ _ (_ :: _) _ _ _); refine RG.go1 (k := ?_)) | ((with_reducible show DG _ _ (_ :: _) _ _ _ _ _); refine DG.go1 (k := ?_)) | with_reducible apply RG.nil | with_reducible apply W.seq | with_reducible apply W.reg | with_reducible apply W.skip | with_reducible apply W.block | with_reducible apply W.drw | with_reducible apply DG.nil | (with_reducible refine W.done (QB.n ?_))))
        have qT : ALe (.str T) (.str (S.take (g + k))) := ALe.str hTd.symm
        refine W.done (QL.n (⟨⟨i + 1, g + k, s2⟩, by dsimp only; omega, hs2⟩) ?_ ?_)
        · exact Wk.rn ([0] ) ( [])
        · dsimp only; omega
  (refine W.exit ?_; (repeat (first | (with_reducible first | refine QL.x ?_ | refine QC.x ?_ | refine QB.x ?_) | (with_reducible refine QB.o (by decide) ?_))))
  refine W.wk ?_ (stream2_ok a ha S q1 g s hs) (by simp)
  exact Wk.rn ([0] ) ( [])
theorem cuts_arg {w : World} {r : Reach} {b0 base : Nat} {H : Type} {enc : TypeId × Value → H} {spare : Nat → Bool} {held : Bool} {v : Value} {d : DataW H} {p : List MemPlace} (hv : Value.okWide Try.prog w r b0 41 v) (k : DataW.Trod enc Try.prog w base spare held 41 v d p) :
    ∃ l : List Cut, Rep0 (fun x => x < w.heap.size) w v (.sl false 3 (l.map cutA)) ∧ l.length ≤ maxLen := by
  obtain ⟨av, hr, hf⟩ := arg_sl (n := 5) (ts := [.int .i64, .int .i64, .int .i64]) Try.underlying41 (by kernel_rfl) hv k
  obtain ⟨l, rfl, hq, hl⟩ := hf.rows (fun o : Cut => [.int .i64 o.f, .int .i64 o.n, .int .i64 o.r]) (fun _ => True) (by decide) (fun cs h => by
    obtain ⟨a, cs, rfl, h1, h⟩ := h.inv
    obtain ⟨b, cs, rfl, h2, h⟩ := h.inv
    obtain ⟨c, cs, rfl, h3, h⟩ := h.inv
    cases h.inv0
    obtain ⟨x, rfl, _⟩ := h1.int_inv
    obtain ⟨y, rfl, _⟩ := h2.int_inv
    obtain ⟨z, rfl, _⟩ := h3.int_inv
    exact ⟨⟨x, y, z⟩, rfl, trivial⟩)
  exact ⟨l, hr, hl⟩
theorem RecvqStream_walk {r : Reach} {b0 base : Nat} {H : Type} {enc : TypeId × Value → H} {spare : Nat → Bool} {held : Bool} {d1 d2 : DataW H} {p1 p2 : List MemPlace} (a : Int) (v u : Value) (W : World) (ha : 0 ≤ a ∧ a ≤ 4294967295) (hv : Value.okWide Try.prog W r b0 26 v) (k : DataW.Trod enc Try.prog W base spare held 26 v d1 p1) (hu : Value.okWide Try.prog W r b0 41 u) (k2 : DataW.Trod enc Try.prog W base spare held 41 u d2 p2) :
    Calls Try.prog 5 #[.int .u32 a, v, u] W fun e W' => e = .returned (.bool true) ∧ Below W.heap.size W W' := by
  obtain ⟨av, hr, hf⟩ := arg_sl (n := 5) (ts := [.int .u8]) Try.underlying26 (by kernel_rfl) hv k
  obtain ⟨S, rfl, hl⟩ := hf.bytes
  obtain ⟨l, hr2, hl2⟩ := cuts_arg hu k2
  exact acall_lawF (recvqStream_ok a ha S (len_le hl) l (len_le hl2)) W [_, _, _] ⟨.pure _ _ (.int _ _), .pure _ _ hr, .pure _ _ hr2, trivial⟩
end Go.Proofs.Ytmohmcgcggenfaa
