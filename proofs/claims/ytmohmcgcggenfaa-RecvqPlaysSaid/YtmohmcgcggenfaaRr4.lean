/- What the document's receiver computes: Like; recvq.Right. -/
import Derived.Test.YtmohmcgcggenfaaRp2
namespace Go.Proofs.Ytmohmcgcggenfaa
open Go.RowKit
set_option linter.unusedVariables false
set_option linter.unusedSimpArgs false
set_option maxRecDepth 100000
set_option maxHeartbeats 4000000
section
variable {P : Program} {N : Nat} {l : List AO} {y : List ACode} {Q : AX → AS → Prop} {tm : List (Nat × AV)} {bx bx' : List (Option (List AV))} {rw rw' : List (Option ARow)} {nb nr nb' nr' : Nat}
/-- a load of an own row's element, under a guard -/
theorem SG.ldr {G g fr : Bool} {n b k i off : Nat} {a : Opd} {ua : AV} {es : List AV} {x v : AV} {c : Prop} (ha : lookT (gT tm) a = ua) (hu : ua.val = .rptr b k i off) (hr : gO rw b = some ⟨fr, k, es⟩) (hi : G = true → ua.cond ∧ i < es.length) (hx : es[i]?.getD .any = x) (h : loadC g n (x.cells.drop off) = ⟨c, v, 0, 0, []⟩) (hc : c) :
    SG tm bx rw nb nr G (.load g n a) v := by
  have h' : (loadC g n ((es[i]?.getD .any).cells.drop off)) = ⟨c, v, 0, 0, []⟩ := by rw [hx, h]
  refine ⟨rfl, fun hG => ?_, ?_, ?_, ?_, ?_⟩ <;> simp only [aistep, ha, hu, hr, h']
  exact ⟨(hi hG).1, trivial, trivial, (hi hG).2, hc⟩
theorem RG.gld {t u n b wk i off : Nat} {want G g fr : Bool} {a : Opd} {ua : AV} {es : List AV} {x v v2 : AV} {c : Prop} (hx : es[i]?.getD .any = x) (hg : gval (gT tm u) want = some G := by first | (exact (by first | (refine gval_of (by first | ((conv => lhs; whnf) <;> exact rfl) | fail) ?_; (dsimp only [gval, k_b1, k_b2, k_b3, k_b4, k_g1, k_g2]; (first | (all_goals fail) | fail))) | fail)) | fail) (ha : lookT (gT tm) a = ua := by first | (exact (by first | ((conv => lhs; whnf) <;> exact rfl) | fail)) | fail) (hu : ua.val = .rptr b wk i off := by first | (exact rfl) | fail) (hr : gO rw b = some ⟨fr, wk, es⟩ := by first | (exact (by first | ((conv => lhs; whnf) <;> exact rfl) | fail)) | fail) (hi : G = true → ua.cond ∧ i < es.length := by first | (first | (intro hG; exact ⟨by first | exact True.intro | exact rfl | exact hG | (simp_all; (first | (all_goals fail) | fail)), by first | assumption | omega | (simp; (first | (all_goals fail) | fail)) | (simp <;> omega)⟩)) | fail) (h : loadC g n (x.cells.drop off) = ⟨c, v, 0, 0, []⟩ := by first | (exact (by first | ((dsimp only [aistep, lookT, gT, gO, cond_true, cond_false, AV.val, AV.cond, AV.cells, binI, loadC, pickV, bnd, bndc, minL, maxL, ints, strI, els, frzV, frzC, frzIds, frzUp, putCells, fillV, fillC, gval, mkCnd, k_g1, k_g2, k_tt, k_ff, k_d0, k_ds, k_dn, k_t0, k_ts, k_tn, k_hd, k_ap, k_an, k_lc, k_ln, k_m0, k_mc, k_i0, k_is, k_gs, k_fl0, k_flc, k_b1, k_b2, k_b3, k_b4, k_om, k_nf, k_nt, Int.reduceToNat, Nat.reduceAdd, Nat.reduceMul, Nat.reduceSub, Nat.reduceBEq]; (first | (all_goals fail) | fail))) | fail)) | fail) (hc : c := by first | (exact (by first | ((repeat' (first | exact True.intro | exact rfl | apply And.intro | omega | (simp [okV, scal]; (first | (all_goals fail) | fail)))); (first | (all_goals fail) | fail)) | fail)) | fail) (hw : mkCnd G v = v2 := by first | ((dsimp only [mkCnd, k_g1, k_g2]; (first | (all_goals fail) | fail))) | fail) (k : RG P N l y ⟨(t, v2) :: tm, bx, rw, nb, nr⟩ Q) : RG P N (⟨some t, .load g n a, some (u, want)⟩ :: l) y ⟨tm, bx, rw, nb, nr⟩ Q := RG.step (STP.g hg (SG.ldr ha hu hr hi hx h hc) hw) k
end
theorem blankO_ok (n : Nat) (hn : n ≤ 1000) : ACall Try.prog 27 [.int .i64 n] (.ref 0 1 0 n) [⟨false, 1, gi (List.replicate n (-1))⟩] := by
  refine acall_walk (N := 14) Try.func27 (by kernel_rfl) p_caravelref17_blank rfl ?_; unfold c_caravelref17_blank; dsimp only [enum, Nat.reduceAdd]
  (repeat (first | ((with_reducible show RG _ _ (_ :: _) _ _ _); refine RG.go1 (k := ?_)) | ((with_reducible show DG _ _ (_ :: _) _ _ _ _ _); refine DG.go1 (k := ?_)) | with_reducible apply RG.nil | with_reducible apply W.seq | with_reducible apply W.reg | with_reducible apply W.skip | with_reducible apply W.block | with_reducible apply W.drw | with_reducible apply DG.nil | (with_reducible refine W.done (QB.n ?_))))
  refine W.wk (Wk.nilT (t := 3) 1 rfl) ?_ (by simp)
  refine W.loop (ι := {i : Nat // i ≤ n}) (fun i => ⟨[(4, .int .i64 i.1), (0, .int .i64 n), (3, .ref 0 1 0 i.1)], [], [some ⟨false, 1, gi (List.replicate i.1 (-1))⟩], 0, 1⟩) (fun i => n - i.1) ⟨0, Nat.zero_le _⟩ ?_ ?_
  · exact Wk.rn ([] ) ( [0])
  rintro ⟨i, hi⟩
  dsimp only
  have hp := gi_pure (List.replicate i (-1))
  have hl : (gi (List.replicate i (-1))).length = i := by rw [gi_len]; simp
  (repeat (first | ((with_reducible show RG _ _ (_ :: _) _ _ _); refine RG.go1 (k := ?_)) | ((with_reducible show DG _ _ (_ :: _) _ _ _ _ _); refine DG.go1 (k := ?_)) | with_reducible apply RG.nil | with_reducible apply W.seq | with_reducible apply W.reg | with_reducible apply W.skip | with_reducible apply W.block | with_reducible apply W.drw | with_reducible apply DG.nil | (with_reducible refine W.done (QB.n ?_))))
  refine W.cnd (fun h1 => ?_) (fun h1 => ?_)
  · have hlt : i < n := by simp at h1; omega
    have hsn : gi (List.replicate i (-1)) ++ [.int .i64 (-1)] = gi (List.replicate (i + 1) (-1)) := by rw [gi_snoc, List.replicate_succ']
    (repeat (first | ((with_reducible show RG _ _ (_ :: _) _ _ _); refine RG.go1 (k := ?_)) | ((with_reducible show DG _ _ (_ :: _) _ _ _ _ _); refine DG.go1 (k := ?_)) | with_reducible apply RG.nil | with_reducible apply W.seq | with_reducible apply W.reg | with_reducible apply W.skip | with_reducible apply W.block | with_reducible apply W.drw | with_reducible apply DG.nil | (with_reducible refine W.done (QB.n ?_))))
    rw [hsn]
    refine W.done (QL.n (⟨i + 1, hlt⟩) ?_ ?_)
    · exact Wk.rn ([] ) ( [2])
    · dsimp only; omega
  have hi2 : i = n := by simp at h1; omega
  subst hi2
  (refine W.exit ?_; (repeat (first | (with_reducible first | refine QL.x ?_ | refine QC.x ?_ | refine QB.x ?_) | (with_reducible refine QB.o (by decide) ?_))))
  (repeat (first | ((with_reducible show RG _ _ (_ :: _) _ _ _); refine RG.go1 (k := ?_)) | ((with_reducible show DG _ _ (_ :: _) _ _ _ _ _); refine DG.go1 (k := ?_)) | with_reducible apply RG.nil | with_reducible apply W.seq | with_reducible apply W.reg | with_reducible apply W.skip | with_reducible apply W.block | with_reducible apply W.drw | with_reducible apply DG.nil | (with_reducible refine W.done (QB.n ?_))))
  (refine W.ret ?_; (repeat (with_reducible first | refine QB.r ?_ | refine QL.r ?_ | refine QC.r ?_)); refine QF.r ?_)
  exact RetOk.rs (vs := [_]) r_caravelref17_blank [0]
theorem rAdd1_ok (a : Int) (ha : 0 ≤ a ∧ a ≤ 4294967295) : ACall Try.prog 31 [.int .u32 a, .int .i64 (-1)] (.int .u32 (sAdd a (-1))) [] := by
  have c := rMod_ok (a + -1) (by omega)
  have e : IntKind.i64.wrap (a + (-1 : Int).tmod 4294967296) = a + -1 := by
    rw [show (-1 : Int).tmod 4294967296 = -1 from rfl]; exact w_i64 (by omega)
  refine acall_walk (N := 12) Try.func31 (by kernel_rfl) p_caravelref03_Add rfl ?_; unfold c_caravelref03_Add; dsimp only [enum, Nat.reduceAdd]
  (repeat (first | ((with_reducible show RG _ _ (_ :: _) _ _ _); refine RG.go1 (k := ?_)) | ((with_reducible show DG _ _ (_ :: _) _ _ _ _ _); refine DG.go1 (k := ?_)) | with_reducible apply RG.nil | with_reducible apply W.seq | with_reducible apply W.reg | with_reducible apply W.skip | with_reducible apply W.block | with_reducible apply W.drw | with_reducible apply DG.nil | (with_reducible refine W.done (QB.n ?_))))
  rw [e]
  (first | ((with_reducible show RG _ _ (_ :: _) _ _ _); refine RG.ca (c) (k := ?_)) | ((with_reducible show DG _ _ (_ :: _) _ _ _ _ _); refine DG.ca (c) (k := ?_)))
  (repeat (first | ((with_reducible show RG _ _ (_ :: _) _ _ _); refine RG.go1 (k := ?_)) | ((with_reducible show DG _ _ (_ :: _) _ _ _ _ _); refine DG.go1 (k := ?_)) | with_reducible apply RG.nil | with_reducible apply W.seq | with_reducible apply W.reg | with_reducible apply W.skip | with_reducible apply W.block | with_reducible apply W.drw | with_reducible apply DG.nil | (with_reducible refine W.done (QB.n ?_))))
  (refine W.ret ?_; (repeat (with_reducible first | refine QB.r ?_ | refine QL.r ?_ | refine QC.r ?_)); refine QF.r ?_)
  unfold sAdd
  exact RetOk.rs (vs := [_]) r_caravelref03_Add []
end Go.Proofs.Ytmohmcgcggenfaa
