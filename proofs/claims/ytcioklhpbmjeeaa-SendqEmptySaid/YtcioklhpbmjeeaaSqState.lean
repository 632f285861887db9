/- The functions of package sendq, said of the document's record. -/
import Derived.Test.YtcioklhpbmjeeaaSqPlain
import Derived.Test.YtcioklhpbmjeeaaMemB
namespace Go.Proofs.Ytcioklhpbmjeeaa
open Go.RowKit
set_option linter.unusedVariables false

/-- The call gives a sender in memory of its own. -/
def SqPost (w : World) (y : Snd) (f : Value → Value) (e : Ending) (w' : World) : Prop :=
  ∃ a c, e = .returned (f (qv y a c)) ∧ Row w' a y.rest.length c 1 (bytes y.rest) ∧ InRange a (bytes y.rest) w.heap.size w'.heap.size ∧ Below w.heap.size w w'

theorem own_lo {w : World} {base e k : Nat} {a : Option Addr} {n c : Nat} {xs : List Value} (h : w.ownsRow base e k (.slice a n c) n xs) : ∀ ad, a = some ad → base ≤ ad.block := fun ad hd => by subst hd; exact (h.lt ad.block rfl).1

section
variable (x : Snd) (h : x.Ok) (a : Option Addr) (c : Nat) (w : World) (hr : Row w a x.rest.length c 1 (bytes x.rest))
include h hr
omit hr in
theorem out_le' : x.out ≤ x.rest.length := by
  have h1 := h.low_eq; have h2 := h.s; rw [x.rest_len]; unfold Snd.out; omega
omit hr in
theorem rest_le' : x.rest.length ≤ 256 := by have := h.r; rw [x.rest_len]; omega

theorem qWrite_any (a2 : Option Addr) (m c2 : Nat) (ds : List UInt8) (h2 : Row w a2 m c2 1 (bytes ds)) (hm : m ≤ 1000000) (y : Snd) (hy : x.write ds = y) (k : Nat) (hk : x.kW ds.length = k) :
    Calls Try.prog 12 #[qv x a c, .slice a2 m c2] w (SqPost w y fun d => .tuple #[d, .int .i64 k]) := by
  have hml : ds.length = m := by have := h2.len; simpa [bytes] using this
  refine (sqWrite_any _ a _ c x.rest _ _ _ _ a2 m c2 ds w hr h2 (rest_le' x h) hm k (by rw [← hk, Snd.kW_rest, hml])).mono ?_
  rintro e w' ⟨a', c', rfl, ho, hb⟩
  have e1 : y.rest = x.rest ++ ds.take k := by rw [← hy, ← hk]; exact Snd.write_rest h ds
  have e2 : y.rest.length = x.rest.length + k := by rw [← hy, ← hk]; exact Snd.write_len h ds
  have e3 : y.out = x.out := by rw [← hy]; exact Snd.write_out h ds
  have e4 : y.ea = x.ea := by rw [← hy]; exact (Snd.write_low h ds).2
  have r := Row.of_own ho
  rw [← e1, ← e2] at r
  have l := r.inRange (own_lo ho)
  refine ⟨a', c', ?_, r, l, hb⟩
  have e5 : y.una = x.una ∧ y.fin = x.fin ∧ y.es = x.es := by rw [← hy]; exact ⟨rfl, rfl, rfl⟩
  simp only [qv]
  rw [e2, e3, e4, e5.1, e5.2.1, e5.2.2]

theorem qClone_any : Calls Try.prog 24 #[qv x a c] w (SqPost w x id) := by
  refine (sqClone_any _ a _ c x.rest _ _ _ _ w hr (by have := rest_le' x h; omega)).mono ?_
  rintro e w' ⟨a', c', rfl, ho, hb⟩
  have r := Row.of_own ho
  exact ⟨a', c', rfl, r, r.inRange (own_lo ho), hb⟩

theorem qClose_any : Calls Try.prog 16 #[qv x a c] w (SqPost w x.close id) := by
  refine (sqClose_any _ a _ c x.rest _ _ _ _ w hr (by have := rest_le' x h; omega)).mono ?_
  rintro e w' ⟨a', c', rfl, ho, hb⟩
  have r := Row.of_own ho
  exact ⟨a', c', rfl, r, r.inRange (own_lo ho), hb⟩

omit hr in
theorem qRoom_any : Calls Try.prog 17 #[qv x a c] w fun e w' => e = .returned (.int .i64 x.room) ∧ Below w.heap.size w w' := by
  refine (sqRoom_any _ a _ c _ _ _ _ w (by have := rest_le' x h; omega)).mono ?_
  rintro e w' ⟨rfl, hb⟩
  refine ⟨ret_int ?_, hb⟩
  have := x.low_le
  unfold Snd.room; rw [x.rest_len]; split <;> omega
omit hr in
theorem qFlight_any : Calls Try.prog 18 #[qv x a c] w fun e w' => e = .returned (.int .i64 x.flight) ∧ Below w.heap.size w w' := by
  refine (sqFlight_any _ a _ c _ _ _ _ w (by have := out_le' x h; have := rest_le' x h; omega)).mono ?_
  rintro e w' ⟨rfl, hb⟩
  exact ⟨ret_int (Snd.flight_code h), hb⟩
omit h hr in
theorem qEmpty_any : Calls Try.prog 23 #[qv x a c] w fun e w' => e = .returned (.bool (decide (x.rest.length = 0) && (!x.fin || x.ea))) ∧ Below w.heap.size w w' :=
  sqEmpty_any _ a _ c _ _ _ _ w
omit hr in
theorem qRight_any : Calls Try.prog 9 #[qv x a c] w fun e w' => e = .returned (.bool true) ∧ Below w.heap.size w w' := by
  refine sqRight_any _ a _ c _ _ _ _ w true ?_
  have h1 := rest_le' x h
  have h2 := out_le' x h
  have h3 := x.rest_len
  have h4 := h.low_eq
  have h5 := x.low_le
  symm
  simp only [Bool.and_eq_true, Bool.or_eq_true, Bool.not_eq_true', decide_eq_true_eq, beq_iff_eq]
  refine ⟨⟨⟨⟨by omega, by omega⟩, by omega⟩, ?_⟩, ?_⟩
  · cases hes : x.es
    · exact .inl rfl
    · right
      obtain ⟨h6, h7⟩ := h.e hes
      refine ⟨h6, ?_⟩
      unfold Snd.out; omega
  · rcases h.ack_cases with ⟨h6, h7, h8⟩ | ⟨h6, h7, h8, h9, h10, h11⟩
    · exact .inl h8
    · exact .inr ⟨h7, by omega⟩

/-- What Next gives: the sender behind it, the piece, whether it is the end, whether there is one. -/
def QNextPost (w : World) (y : Snd) (at_ : Int) (k : Nat) (pc : List UInt8) (en ok : Bool) (e : Ending) (w' : World) : Prop :=
  ∃ a c a2 c2, e = .returned (.tuple #[qv y a c, .agg #[.int .u32 at_, .slice a2 k c2], .bool en, .bool ok]) ∧ Row w' a y.rest.length c 1 (bytes y.rest) ∧ InRange a (bytes y.rest) w.heap.size w'.heap.size ∧
    Row w' a2 k c2 1 (bytes pc) ∧ InRange a2 (bytes pc) w.heap.size w'.heap.size ∧ Below w.heap.size w w'
theorem qNext_any (win mss : Int) (hw : -9223372036854775808 ≤ win ∧ win ≤ 9223372036854775807) (hm : -9223372036854775808 ≤ mss ∧ mss ≤ 9223372036854775807)
    (k : Nat) (hk : x.kN win mss = k) (en : Bool) (he : x.eN k = en) (pc : List UInt8) (hpc : (x.all.drop x.sent).take k = pc) (y : Snd) (hy : x.next k en = y) (ok : Bool) (hok : Snd.nOk k en = ok) (at_ : Int) (hat : x.nAt ok = at_) :
    Calls Try.prog 13 #[qv x a c, .int .i64 win, .int .i64 mss] w (QNextPost w y at_ k pc en ok) := by
  have hkc := Snd.kN_code h win mss
  rw [hk] at hkc
  have hec := Snd.eN_code h k
  rw [he] at hec
  refine (sqNext_any _ a _ c x.rest x.out _ _ _ win mss w hr (rest_le' x h) (out_le' x h) x.una_bd hw hm k hkc en hec).mono ?_
  rintro e w' ⟨hb, a1, c1, l1, r1, hcase⟩
  have e1 : y.rest = x.rest := by rw [← hy]; rfl
  have e2 : y.out = x.out + k := by rw [← hy]; exact Snd.next_out h k en
  have e3 : y.ea = x.ea := by rw [← hy]; rfl
  have e4 : y.una = x.una ∧ y.fin = x.fin ∧ y.es = (x.es || en) := by rw [← hy]; exact ⟨rfl, rfl, rfl⟩
  rcases hcase with ⟨rfl, rfl, rfl⟩ | ⟨hne, a2, c2, r2, l2, rfl⟩
  · have hok2 : ok = false := by rw [← hok]; rfl
    have hat2 : at_ = 0 := by rw [← hat, hok2]; rfl
    have hp2 : pc = [] := by rw [← hpc]; rfl
    subst hok2 hat2 hp2
    refine ⟨a1, c1, none, 0, ?_, by rw [e1]; exact r1, by rw [e1]; exact r1.inRange l1, by simpa [bytes] using Row.of_nil w' 1, (fun ad hd => by cases hd), hb⟩
    simp only [qv]
    rw [e1, e2, e3, e4.1, e4.2.1, e4.2.2]
    simp
  · have hok2 : ok = true := by rw [← hok]; exact Snd.nOk_true hne
    have hat2 : at_ = sAdd x.una x.out := by rw [← hat, hok2, Snd.next_at h k en win mss hk he hne]; rfl
    subst hok2 hat2
    rw [Snd.next_piece h, hpc] at r2
    refine ⟨a1, c1, a2, c2, ?_, by rw [e1]; exact r1, by rw [e1]; exact r1.inRange l1, r2, r2.inRange l2, hb⟩
    simp only [qv]
    rw [e1, e2, e3, e4.1, e4.2.1, e4.2.2]

def QAgainPost (w : World) (at_ : Int) (k : Nat) (pc : List UInt8) (en ok : Bool) (e : Ending) (w' : World) : Prop :=
  ∃ a2 c2, e = .returned (.tuple #[.agg #[.int .u32 at_, .slice a2 k c2], .bool en, .bool ok]) ∧ Row w' a2 k c2 1 (bytes pc) ∧ InRange a2 (bytes pc) w.heap.size w'.heap.size ∧ Below w.heap.size w w'
theorem qAgain_any (mss : Int) (hm : -9223372036854775808 ≤ mss ∧ mss ≤ 9223372036854775807)
    (k : Nat) (hk : x.kA mss = k) (en : Bool) (he : x.eA k = en) (pc : List UInt8) (hpc : x.rest.take k = pc) (ok : Bool) (hok : Snd.nOk k en = ok) (at_ : Int) (hat : x.aAt ok = at_) :
    Calls Try.prog 14 #[qv x a c, .int .i64 mss] w (QAgainPost w at_ k pc en ok) := by
  have hkc := x.kA_code mss
  rw [hk] at hkc
  have hec := x.eA_code k
  rw [he] at hec
  refine (sqAgain_any _ a _ c x.rest x.out _ _ _ mss w hr (rest_le' x h) (out_le' x h) hm k hkc en hec).mono ?_
  rintro e w' ⟨hb, hcase⟩
  rcases hcase with ⟨rfl, rfl, rfl⟩ | ⟨hne, a2, c2, r2, l2, rfl⟩
  · have hok2 : ok = false := by rw [← hok]; rfl
    have hat2 : at_ = 0 := by rw [← hat, hok2]; rfl
    have hp2 : pc = [] := by rw [← hpc]; rfl
    subst hok2 hat2 hp2
    exact ⟨none, 0, rfl, by simpa [bytes] using Row.of_nil w' 1, (fun ad hd => by cases hd), hb⟩
  · have hok2 : ok = true := by rw [← hok]; exact Snd.nOk_true hne
    have hat2 : at_ = x.una := by rw [← hat, hok2]; rfl
    subst hok2 hat2
    rw [hpc] at r2
    exact ⟨a2, c2, rfl, r2, r2.inRange l2, hb⟩

theorem qAck_any (ack : Int) (hA : 0 ≤ ack ∧ ack ≤ 4294967295) (d : Int) (hd : sDiff ack x.una = d) (y : Snd) (hy : x.ackd d = y) (n E : Int) (hn : x.ackN d = n) (hE : x.ackE d = E) :
    Calls Try.prog 15 #[qv x a c, .int .u32 ack] w (SqPost w y fun q => .tuple #[q, .int .i64 n, .int .i64 E]) := by
  have hfb := h.flight_bd
  refine (sqAck_any _ a _ c x.rest x.out _ _ _ ack w hr (rest_le' x h) (out_le' x h) x.una_bd hA d hd x.flight (Snd.flight_code h) (min d x.out).toNat (fun h0 => by omega)).mono ?_
  rintro e w' ⟨hb, a1, c1, l1, hcase⟩
  rcases hcase with ⟨h1, r1, rfl⟩ | ⟨h1, h2, r1, rfl⟩ | ⟨h1, h2, r1, rfl⟩
  · have e1 : y = x := by rw [← hy]; unfold Snd.ackd; rw [if_neg (by omega)]
    have e2 : n = 0 := by rw [← hn]; unfold Snd.ackN; rw [if_neg (by omega)]
    have e3 : E = 0 := by rw [← hE]; unfold Snd.ackE; rw [if_neg (by omega)]
    clear hy hn hE
    subst e1 e2 e3
    exact ⟨a1, c1, rfl, r1, r1.inRange l1, hb⟩
  · have e1 : y = x := by rw [← hy]; unfold Snd.ackd; rw [if_neg (by omega)]
    have e2 : n = 0 := by rw [← hn]; unfold Snd.ackN; rw [if_neg (by omega)]
    have e3 : E = 1 := by rw [← hE]; unfold Snd.ackE; rw [if_pos (by omega)]
    clear hy hn hE
    subst e1 e2 e3
    exact ⟨a1, c1, rfl, r1, r1.inRange l1, hb⟩
  · have e0 : y = x.ack d.toNat := by rw [← hy]; unfold Snd.ackd; rw [if_pos ⟨h1, h2⟩]
    have e2 : n = d := by rw [← hn]; unfold Snd.ackN; rw [if_pos ⟨h1, h2⟩]
    have e3 : E = 0 := by rw [← hE]; unfold Snd.ackE; rw [if_neg (by omega)]
    obtain ⟨q1, q2, q3⟩ := Snd.ack_low h d.toNat (by omega) (by omega)
    have q4 := Snd.ack_una x ack d hA hd h1
    rw [← e0] at q1 q2 q3 q4
    obtain ⟨k, hk⟩ : ∃ k : Nat, (min d x.out).toNat = k := ⟨_, rfl⟩
    have hk2 : min d.toNat x.out = k := by omega
    rw [hk] at r1
    rw [hk2] at q1 q2
    have e4 : y.rest = x.rest.drop k := by
      unfold Snd.rest; rw [q1, List.drop_drop, e0]; rfl
    have e5 : y.rest.length = x.rest.length - k := by rw [e4]; simp
    have e6 : (y.out : Int) = (x.out : Int) - k := by
      have := h.low_eq
      have : y.sent = x.sent := by rw [e0]; rfl
      unfold Snd.out at *; omega
    have e7 : y.ea = (x.ea || decide ((k : Int) < d)) := by rw [q2]; congr 1; rw [decide_eq_decide]; omega
    rw [← e4, ← e5] at r1
    refine ⟨a1, c1, ?_, r1, r1.inRange l1, hb⟩
    have e8 : y.fin = x.fin ∧ y.es = x.es := by rw [e0]; exact ⟨rfl, rfl⟩
    simp only [qv]
    rw [e5, e6, e7, q4, e8.1, e8.2, e2, e3, hk]
end
end Go.Proofs.Ytcioklhpbmjeeaa
