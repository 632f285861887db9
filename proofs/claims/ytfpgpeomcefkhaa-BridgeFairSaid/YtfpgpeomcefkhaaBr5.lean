/- The law's frame, and a frame's bytes. -/
import Derived.Test.YtfpgpeomcefkhaaBr4
namespace Go.Proofs.Ytfpgpeomcefkhaa
open Go.RowKit
set_option linter.unusedVariables false
set_option linter.unusedSimpArgs false
set_option maxRecDepth 100000
set_option maxHeartbeats 4000000
theorem frame_ok (d s : Mac) : ACall Try.prog 15 [.agg d.l, .agg s.l] (.sl false 1 (d.l ++ (s.l ++ [.int .u8 8, .int .u8 0]))) [] := by
  unfold Mac.l
  refine acall_walk (N := 12) Try.func15 (by kernel_rfl) p_caravellaw12_frame rfl ?_; unfold c_caravellaw12_frame; dsimp only [enum, Nat.reduceAdd]
  (repeat (first | ((with_reducible show RG _ _ (_ :: _) _ _ _); refine RG.go1 (k := ?_)) | ((with_reducible show DG _ _ (_ :: _) _ _ _ _ _); refine DG.go1 (k := ?_)) | with_reducible apply RG.nil | with_reducible apply W.seq | with_reducible apply W.reg | with_reducible apply W.skip | with_reducible apply W.block | with_reducible apply W.drw | with_reducible apply DG.nil | (with_reducible refine W.done (QB.n ?_)) | refine W.cndT ?_ | refine W.cndF ?_))
  (refine W.ret ?_; (repeat (with_reducible first | refine QB.r ?_ | refine QL.r ?_ | refine QC.r ?_)); refine QF.r ?_)
  (refine RetOk.wk (Wk.frz (b := 6) rfl rfl) ?_; refine RetOk.wk (Wk.tmp (t := 4) (Cl.ice rfl rfl rfl (by first | assumption | decide | omega | (simp; (first | (all_goals fail) | fail)) | (simp <;> omega)) (by first | exact take_all _ | exact take_len (by first | (simp; (first | (all_goals fail) | fail)) | (simp <;> omega)) | exact rfl))) ?_; dsimp only [setO])
  exact RetOk.rs (vs := [_]) r_caravellaw12_frame []
def cardL (n : UInt8) : List UInt8 := if n.toNat = 255 then [255, 255, 255, 255, 255, 255] else if n.toNat = 254 then [1, 2, 0, 0, 0, 0] else [2, n, 0, 0, 0, 0]
theorem card_ok (n : UInt8) : ACall Try.prog 20 [.int .u8 n.toNat] (.agg ((cardL n).map by8)) [] := by
  unfold cardL
  have hk2 := n.toNat_lt
  by_cases h1 : n.toNat = 255
  · rw [if_pos h1]
    generalize n.toNat = k at *
    refine acall_walk (N := 12) Try.func20 (by kernel_rfl) p_caravellaw12_bytes_1 rfl ?_; unfold c_caravellaw12_bytes_1; dsimp only [enum, Nat.reduceAdd]
    (repeat (first | ((with_reducible show RG _ _ (_ :: _) _ _ _); refine RG.go1 (k := ?_)) | ((with_reducible show DG _ _ (_ :: _) _ _ _ _ _); refine DG.go1 (k := ?_)) | with_reducible apply RG.nil | with_reducible apply W.seq | with_reducible apply W.reg | with_reducible apply W.skip | with_reducible apply W.block | with_reducible apply W.drw | with_reducible apply DG.nil | (with_reducible refine W.done (QB.n ?_)) | refine W.cndT ?_ | refine W.cndF ?_))
    (repeat (first | ((with_reducible show RG _ _ (_ :: _) _ _ _); refine RG.go1 (k := ?_)) | ((with_reducible show DG _ _ (_ :: _) _ _ _ _ _); refine DG.go1 (k := ?_)) | with_reducible apply RG.nil | with_reducible apply W.seq | with_reducible apply W.reg | with_reducible apply W.skip | with_reducible apply W.block | with_reducible apply W.drw | with_reducible apply DG.nil | (with_reducible refine W.done (QB.n ?_)) | refine W.cndT ?_ | refine W.cndF ?_))
    (first | ((with_reducible show RG _ _ (_ :: _) _ _ _); refine RG.ca (all_ok) (k := ?_)) | ((with_reducible show DG _ _ (_ :: _) _ _ _ _ _); refine DG.ca (all_ok) (k := ?_)))
    (repeat (first | ((with_reducible show RG _ _ (_ :: _) _ _ _); refine RG.go1 (k := ?_)) | ((with_reducible show DG _ _ (_ :: _) _ _ _ _ _); refine DG.go1 (k := ?_)) | with_reducible apply RG.nil | with_reducible apply W.seq | with_reducible apply W.reg | with_reducible apply W.skip | with_reducible apply W.block | with_reducible apply W.drw | with_reducible apply DG.nil | (with_reducible refine W.done (QB.n ?_)) | refine W.cndT ?_ | refine W.cndF ?_))
    (refine W.ret ?_; (repeat (with_reducible first | refine QB.r ?_ | refine QL.r ?_ | refine QC.r ?_)); refine QF.r ?_)
    exact RetOk.rs (vs := [_]) r_caravellaw12_bytes_1 []
  rw [if_neg h1]
  by_cases h2 : n.toNat = 254
  · rw [if_pos h2]
    generalize n.toNat = k at *
    refine acall_walk (N := 12) Try.func20 (by kernel_rfl) p_caravellaw12_bytes_1 rfl ?_; unfold c_caravellaw12_bytes_1; dsimp only [enum, Nat.reduceAdd]
    (repeat (first | ((with_reducible show RG _ _ (_ :: _) _ _ _); refine RG.go1 (k := ?_)) | ((with_reducible show DG _ _ (_ :: _) _ _ _ _ _); refine DG.go1 (k := ?_)) | with_reducible apply RG.nil | with_reducible apply W.seq | with_reducible apply W.reg | with_reducible apply W.skip | with_reducible apply W.block | with_reducible apply W.drw | with_reducible apply DG.nil | (with_reducible refine W.done (QB.n ?_)) | refine W.cndT ?_ | refine W.cndF ?_))
    (refine W.ret ?_; (repeat (with_reducible first | refine QB.r ?_ | refine QL.r ?_ | refine QC.r ?_)); refine QF.r ?_)
    exact RetOk.rs (vs := [_]) r_caravellaw12_bytes_1 []
  rw [if_neg h2]
  rw [show (AV.agg ([2, n, 0, 0, 0, 0].map by8)) = .agg [.int .u8 2, .int .u8 n.toNat, .int .u8 0, .int .u8 0, .int .u8 0, .int .u8 0] from rfl]
  generalize n.toNat = k at *
  refine acall_walk (N := 12) Try.func20 (by kernel_rfl) p_caravellaw12_bytes_1 rfl ?_; unfold c_caravellaw12_bytes_1; dsimp only [enum, Nat.reduceAdd]
  (repeat (first | ((with_reducible show RG _ _ (_ :: _) _ _ _); refine RG.go1 (k := ?_)) | ((with_reducible show DG _ _ (_ :: _) _ _ _ _ _); refine DG.go1 (k := ?_)) | with_reducible apply RG.nil | with_reducible apply W.seq | with_reducible apply W.reg | with_reducible apply W.skip | with_reducible apply W.block | with_reducible apply W.drw | with_reducible apply DG.nil | (with_reducible refine W.done (QB.n ?_)) | refine W.cndT ?_ | refine W.cndF ?_))
  (refine W.ret ?_; (repeat (with_reducible first | refine QB.r ?_ | refine QL.r ?_ | refine QC.r ?_)); refine QF.r ?_)
  exact RetOk.rs (vs := [_]) r_caravellaw12_bytes_1 []
structure Fr where
  port : Int
  dst : UInt8
  src : UInt8
  raw : List UInt8
def fr (f : Fr) : AV := .agg [.int .i64 f.port, .int .u8 f.dst.toNat, .int .u8 f.src.toNat, .sl true 1 (f.raw.map by8)]
def fby (f : Fr) : List UInt8 := if f.raw.length = 0 then cardL f.dst ++ (cardL f.src ++ [8, 0]) else f.raw
def mac6 : List UInt8 → Mac
  | [a, b, c, d, e, f] => ⟨a.toNat, b.toNat, c.toNat, d.toNat, e.toNat, f.toNat⟩
  | _ => ⟨0, 0, 0, 0, 0, 0⟩
theorem mac6_l {l : List UInt8} (h : l.length = 6) : (mac6 l).l = l.map by8 := by
  match l, h with
  | [a, b, c, d, e, f], _ => rfl
theorem six {l : List UInt8} (h : l.length = 6) : ∃ a b c d e f, l = [a, b, c, d, e, f] := by
  match l, h with
  | [a, b, c, d, e, f], _ => exact ⟨a, b, c, d, e, f, rfl⟩
theorem cardL_len (n : UInt8) : (cardL n).length = 6 := by unfold cardL; split; rfl; split <;> rfl
theorem bytes_ok (f : Fr) (hl : f.raw.length ≤ 1000000) : ACall Try.prog 10 [.agg [.int .i64 f.port, .int .u8 f.dst.toNat, .int .u8 f.src.toNat, .sl false 1 (f.raw.map by8)]] (.sl false 1 ((fby f).map by8)) [] := by
  unfold fby
  obtain ⟨p, d, s, r⟩ := f
  dsimp only at *
  have el : (r.map by8).length = r.length := by simp
  by_cases h : r.length = 0
  · rw [if_pos h]
    have cd := card_ok d
    have cs := card_ok s
    obtain ⟨d0, d1, d2, d3, d4, d5, ed⟩ := six (cardL_len d)
    obtain ⟨s0, s1, s2, s3, s4, s5, es⟩ := six (cardL_len s)
    rw [ed] at cd
    rw [es] at cs
    have cf := frame_ok (mac6 [d0, d1, d2, d3, d4, d5]) (mac6 [s0, s1, s2, s3, s4, s5])
    rw [ed, es]
    clear ed es
    dsimp only [mac6, Mac.l] at cf
    simp only [List.map, by8] at cd cs
    simp only [List.cons_append, List.nil_append] at cf
    simp only [List.cons_append, List.nil_append, List.map, by8]
    refine acall_walk (N := 19) Try.func10 (by kernel_rfl) p_caravellaw12_bytes rfl ?_; unfold c_caravellaw12_bytes; dsimp only [enum, Nat.reduceAdd]
    (repeat (first | ((with_reducible show RG _ _ (_ :: _) _ _ _); refine RG.go1 (k := ?_)) | ((with_reducible show DG _ _ (_ :: _) _ _ _ _ _); refine DG.go1 (k := ?_)) | with_reducible apply RG.nil | with_reducible apply W.seq | with_reducible apply W.reg | with_reducible apply W.skip | with_reducible apply W.block | with_reducible apply W.drw | with_reducible apply DG.nil | (with_reducible refine W.done (QB.n ?_)) | refine W.cndT ?_ | refine W.cndF ?_))
    (first | ((with_reducible show RG _ _ (_ :: _) _ _ _); refine RG.cav (cd) (k := ?_)) | ((with_reducible show DG _ _ (_ :: _) _ _ _ _ _); refine DG.cav (cd) (k := ?_)))
    (repeat (first | ((with_reducible show RG _ _ (_ :: _) _ _ _); refine RG.go1 (k := ?_)) | ((with_reducible show DG _ _ (_ :: _) _ _ _ _ _); refine DG.go1 (k := ?_)) | with_reducible apply RG.nil | with_reducible apply W.seq | with_reducible apply W.reg | with_reducible apply W.skip | with_reducible apply W.block | with_reducible apply W.drw | with_reducible apply DG.nil | (with_reducible refine W.done (QB.n ?_)) | refine W.cndT ?_ | refine W.cndF ?_))
    (first | ((with_reducible show RG _ _ (_ :: _) _ _ _); refine RG.cav (cs) (k := ?_)) | ((with_reducible show DG _ _ (_ :: _) _ _ _ _ _); refine DG.cav (cs) (k := ?_)))
    (repeat (first | ((with_reducible show RG _ _ (_ :: _) _ _ _); refine RG.go1 (k := ?_)) | ((with_reducible show DG _ _ (_ :: _) _ _ _ _ _); refine DG.go1 (k := ?_)) | with_reducible apply RG.nil | with_reducible apply W.seq | with_reducible apply W.reg | with_reducible apply W.skip | with_reducible apply W.block | with_reducible apply W.drw | with_reducible apply DG.nil | (with_reducible refine W.done (QB.n ?_)) | refine W.cndT ?_ | refine W.cndF ?_))
    (first | ((with_reducible show RG _ _ (_ :: _) _ _ _); refine RG.ca (cf) (k := ?_)) | ((with_reducible show DG _ _ (_ :: _) _ _ _ _ _); refine DG.ca (cf) (k := ?_)))
    (repeat (first | ((with_reducible show RG _ _ (_ :: _) _ _ _); refine RG.go1 (k := ?_)) | ((with_reducible show DG _ _ (_ :: _) _ _ _ _ _); refine DG.go1 (k := ?_)) | with_reducible apply RG.nil | with_reducible apply W.seq | with_reducible apply W.reg | with_reducible apply W.skip | with_reducible apply W.block | with_reducible apply W.drw | with_reducible apply DG.nil | (with_reducible refine W.done (QB.n ?_)) | refine W.cndT ?_ | refine W.cndF ?_))
    (refine W.ret ?_; (repeat (with_reducible first | refine QB.r ?_ | refine QL.r ?_ | refine QC.r ?_)); refine QF.r ?_)
    exact RetOk.rs (vs := [_]) r_caravellaw12_bytes []
  · rw [if_neg h]
    refine acall_walk (N := 19) Try.func10 (by kernel_rfl) p_caravellaw12_bytes rfl ?_; unfold c_caravellaw12_bytes; dsimp only [enum, Nat.reduceAdd]
    (repeat (first | ((with_reducible show RG _ _ (_ :: _) _ _ _); refine RG.go1 (k := ?_)) | ((with_reducible show DG _ _ (_ :: _) _ _ _ _ _); refine DG.go1 (k := ?_)) | with_reducible apply RG.nil | with_reducible apply W.seq | with_reducible apply W.reg | with_reducible apply W.skip | with_reducible apply W.block | with_reducible apply W.drw | with_reducible apply DG.nil | (with_reducible refine W.done (QB.n ?_)) | refine W.cndT ?_ | refine W.cndF ?_))
    (refine W.ret ?_; (repeat (with_reducible first | refine QB.r ?_ | refine QL.r ?_ | refine QC.r ?_)); refine QF.r ?_)
    exact RetOk.rs (vs := [_]) r_caravellaw12_bytes []
end Go.Proofs.Ytfpgpeomcefkhaa
