/- Part 18 of the texts of the claim: RT5, LaidR, RQ1. -/
import Derived.Test.YtdeapbihbhoefaaGreatDoorMr17
import Derived.Test.YtdeapbihbhoefaaGreatDoorMr16
import Derived.Test.YtdeapbihbhoefaaGreatDoorCards
import Derived.Test.YtdeapbihbhoefaaGreatDoorTie
import Derived.Test.YtdeapbihbhoefaaGreatDoorMr15
import Derived.Deep.DeepHandedRow
import Derived.Deep.Slices
import Derived.LaidMore
import Derived.Lib.LaidTab
import Derived.Shelf.Vars
import Derived.Test.YtdeapbihbhoefaaGreatDoorMr13
import Derived.Lib.Join

/- The program's Parse. -/
namespace Go.Proofs.YtdeapbihbhoefaaGreatDoor
open Go.RowKit
open Go.Lib
open Calm (bcell Blk)
/-- what the library's variables hold, the length too. -/
structure RTab (w : World) : Prop where
  tab : PTab w
  mx : 2 < w.heap.size ∧ ∃ m, w.cell? ⟨2, 0, none⟩ = some (.int .i64 m)
theorem RTab.below {w w' : World} (h : RTab w) (hb : Below w.heap.size w w') : RTab w' := by
  obtain ⟨h1, h6, m, h5⟩ := h
  exact ⟨h1.below hb, Nat.lt_of_lt_of_le h6 hb.size, m, (hb.cell (p := ⟨2, 0, none⟩) h6).trans h5⟩
def words (l : List (List UInt8)) : List Value := l.map fun x => .string ⟨x.toArray⟩
theorem word_len {c : UInt8} : ∀ {l : List UInt8} {x : List UInt8}, x ∈ cutL c l → x.length ≤ l.length
  | [], x, h => by simp [cutL] at h; simp [h]
  | y :: r, x, h => by
    unfold cutL at h
    split at h
    · rcases List.mem_cons.1 h with rfl | h
      · simp
      · have := word_len h; simp; omega
    · cases hr : cutL c r with
      | nil => exact absurd hr (cutL_ne c r)
      | cons a t =>
        rw [hr] at h
        rcases List.mem_cons.1 h with rfl | h
        · have := word_len (c := c) (l := r) (x := a) (by rw [hr]; simp); simp; omega
        · have := word_len (c := c) (l := r) (x := x) (by rw [hr]; simp [h]); simp; omega
theorem cutL_count : ∀ l : List UInt8, (cutL 32 l).length = l.count 32 + 1
  | [] => rfl
  | x :: r => by
    have ih := cutL_count r
    unfold cutL
    by_cases h : x = 32
    · subst h; rw [if_pos rfl]; simp [ih]
    · rw [if_neg h, List.count_cons_of_ne h]
      cases hr : cutL 32 r with
      | nil => exact absurd hr (cutL_ne 32 r)
      | cons a t => rw [hr] at ih; simpa using ih
theorem words_split (s : ByteArray) : (splitB ⟨#[32]⟩ 0 (countB s ⟨#[32]⟩) s).map Value.string = words (cutL 32 s.data.toList) ∧ countB s ⟨#[32]⟩ + 1 = (cutL 32 s.data.toList).length := by
  have h1 : (splitB ⟨#[32]⟩ 0 (countB s ⟨#[32]⟩) s).map (·.data.toList) = cutL 32 s.data.toList := by
    rw [splitB_data, ← split_cut]; rfl
  have h2 : (splitB ⟨#[32]⟩ 0 (countB s ⟨#[32]⟩) s).map Value.string = words (cutL 32 s.data.toList) := by
    rw [← h1]; unfold words; rw [List.map_map]; exact List.map_congr_left fun x _ => rfl
  refine ⟨h2, ?_⟩
  rw [cutL_count]
  show count s.data.toList [32] + 1 = _
  rw [count_one]
theorem split_blk (s : ByteArray) (w : World) (hT : RTab w) (hs : s.size ≤ 4096) {W : List (List UInt8)} (hW : cutL 32 s.data.toList = W) :
    Calls Tryz.prog 40 #[.string s, .string ⟨#[32]⟩] w fun r w' => r = .returned (.slice (some ⟨w.heap.size, 0, none⟩) W.length W.length) ∧ w' = w.alloc (.cells (words W).toArray 9) := by
  obtain ⟨_, m, hm⟩ := hT.mx
  obtain ⟨h1, h2⟩ := words_split s
  refine (Tryz.strings_Split s ⟨#[32]⟩ m w (by omega) hm (by decide)).mono ?_
  rintro r w' ⟨rfl, rfl⟩
  rw [← hW]
  exact ⟨by rw [h2], by rw [h1]⟩
/-- what Parse hands back. -/
structure PG where
  lk : Int
  ht : Int
  rc : Int
  ts : List Int
  gs : List Int
  err : Int
def parF (l : List UInt8) : PG :=
  if 4096 < l.length then ⟨0, 0, 0, [], [], 27⟩ else
  if okW (cutL 32 l) = false then ⟨0, 0, 0, [], [], 26⟩ else
  if guardErr (((hdW (cutL 32 l)).map valS).getD 0 0) (((hdW (cutL 32 l)).map valS).getD 1 0) (((hdW (cutL 32 l)).map valS).getD 2 0) ((tpW (cutL 32 l)).map valS) ((gnW (cutL 32 l)).map valS) = 0
  then ⟨((hdW (cutL 32 l)).map valS).getD 0 0, ((hdW (cutL 32 l)).map valS).getD 1 0, ((hdW (cutL 32 l)).map valS).getD 2 0, (tpW (cutL 32 l)).map valS, (gnW (cutL 32 l)).map valS, 0⟩
  else ⟨0, 0, 0, [], [], guardErr (((hdW (cutL 32 l)).map valS).getD 0 0) (((hdW (cutL 32 l)).map valS).getD 1 0) (((hdW (cutL 32 l)).map valS).getD 2 0) ((tpW (cutL 32 l)).map valS) ((gnW (cutL 32 l)).map valS)⟩
def KPG (p : PG) : Rel.Know := K2 (KG p.lk p.ht p.rc p.ts.length p.ts p.gs.length p.gs) (KV (.int .i64 (p.err)))
theorem zero_kg (W : World) : KG 0 0 0 0 [] 0 [] (.agg #[(.int .i64 0), (.int .i64 0), .slice none 0 0, (.int .i64 0), .slice none 0 0]) W := ⟨none, 0, none, 0, rfl, fun h => by simp at h, fun h => by simp at h⟩
theorem WB.pre {W : List (List UInt8)} (h : WB W) (m : List UInt8) (f : Bool) : WB (wordR m (W, f)).1 ∧ WB (intsR m (W, f)).1 := by
  constructor
  · unfold wordR
    cases W with
    | nil => exact h
    | cons x R => by_cases hx : x = m
                  · simp only [if_pos hx]; exact h.tail
                  · simp only [if_neg hx]; exact h
  · unfold intsR postW
    have hs := (List.dropWhile_suffix (l := W) (fun x => decide (x ≠ m)))
    exact ⟨Nat.le_trans hs.length_le h.1, fun x hx => h.2 x (hs.subset hx)⟩
structure WBs (W : List (List UInt8)) : Prop where
  s0 : WB W
  s1 : WB (st1 W).1
  s2 : WB (st2 W).1
  s3 : WB (st3 W).1
  s4 : WB (st4 W).1
  s5 : WB (st5 W).1
theorem wbs {W : List (List UInt8)} (h : WB W) : WBs W := by
  have h1 : WB (st1 W).1 := (h.pre gW false).1
  have h2 : WB (st2 W).1 := (WB.pre h1 tW (st1 W).2).2
  have h3 : WB (st3 W).1 := (WB.pre h2 tW (st2 W).2).1
  have h4 : WB (st4 W).1 := (WB.pre h3 nW (st3 W).2).2
  have h5 : WB (st5 W).1 := (WB.pre h4 nW (st4 W).2).1
  exact ⟨h, h1, h2, h3, h4, h5⟩
theorem parse_res {tmps : Array Value} {g : Nat} {W : World} {a b d : Int} {A1 A2 : Option Addr} {n1 c1 n2 c2 : Nat} {E : Int} (h2 : tmps[2]?.getD undef = .pointer (some ⟨g, 0, none⟩)) (h3 : tmps[3]?.getD undef = (.int .i64 E)) (K : Blk W g #[(.int .i64 a), (.int .i64 b), .slice A1 n1 c1, (.int .i64 d), .slice A2 n2 c2]) :
    (results Tryz.f9 tmps).run Tryz.prog W = .ok (.tuple #[.agg #[(.int .i64 a), (.int .i64 b), .slice A1 n1 c1, (.int .i64 d), .slice A2 n2 c2], (.int .i64 E)]) W := by
  obtain ⟨f0, f1, f2, f3, f4, fl, ff⟩ := K.o5
  simp [results, Tryz.results9, go_sem, h2, h3, f0, f1, f2, f3, f4]
theorem name_post {P : Program} {fn : Func} {R : Ending → World → Prop} {e : Exit} {a : Act} {W : World} (h : ∀ w2, w2 = W → bodyPost P fn R e a w2) : bodyPost P fn R e a W := h _ rfl
theorem preW_len (m : List UInt8) (W : List (List UInt8)) : (preW m W).length ≤ W.length := (List.takeWhile_prefix _).length_le
def put5 (W : World) (g : Nat) (a b c d e : Value) : World := ((((W.setCell ⟨g, 0, none⟩ a).setCell ⟨g, 1, none⟩ b).setCell ⟨g, 2, none⟩ c).setCell ⟨g, 3, none⟩ d).setCell ⟨g, 4, none⟩ e
theorem put5_blk {W : World} {g : Nat} {a0 b0 c0 d0 e0 : Value} (K : Blk W g #[a0, b0, c0, d0, e0]) (a b c d e : Value) : Blk (put5 W g a b c d e) g #[a, b, c, d, e] := by
  have := ((((K.set (i := 0) (by simp) a).set (i := 1) (by simp) b).set (i := 2) (by simp) c).set (i := 3) (by simp) d).set (i := 4) (by simp) e
  simpa [put5] using this
theorem put5_below {B g : Nat} {w W : World} (h : Below B w W) (hg : B ≤ g) (a b c d e : Value) : Below B w (put5 W g a b c d e) :=
  ((((h.setCell (p := ⟨g, 0, none⟩) hg a).setCell (p := ⟨g, 1, none⟩) hg b).setCell (p := ⟨g, 2, none⟩) hg c).setCell (p := ⟨g, 3, none⟩) hg d).setCell (p := ⟨g, 4, none⟩) hg e
theorem zeros_gblk {W : World} {g : Nat} (K : Blk W g #[(.int .i64 0), (.int .i64 0), .slice none 0 0, (.int .i64 0), .slice none 0 0]) : Blk (put5 W g (.int .i64 0) (.int .i64 0) (.slice none 0 0) (.int .i64 0) (.slice none 0 0)) g #[(.int .i64 0), (.int .i64 0), .slice none 0 0, (.int .i64 0), .slice none 0 0] := put5_blk K _ _ _ _ _
theorem zeros_gbelow {w W : World} (h : Below w.heap.size w W) : Below w.heap.size w (put5 W w.heap.size (.int .i64 0) (.int .i64 0) (.slice none 0 0) (.int .i64 0) (.slice none 0 0)) := put5_below h (Nat.le_refl _) _ _ _ _ _
set_option maxRecDepth 100000 in
set_option maxHeartbeats 1000000 in
theorem parse_long (s : ByteArray) (w : World) (h : 4096 < s.size) : Calls Tryz.prog 9 #[.string s] w (KP (K2 (KG 0 0 0 0 [] 0 []) (KV (.int .i64 27))) w) := by
  go_enter Tryz.func9, Tryz.ntmps9
  go_wp2
  exact bodyPost_ret (v := .tuple #[.agg #[(.int .i64 0), (.int .i64 0), .slice none 0 0, (.int .i64 0), .slice none 0 0], (.int .i64 27)]) (by simp [results, Tryz.results9, go_sem, *]) rfl ⟨_, rfl, ⟨_, _, rfl, zero_kg _, rfl⟩, bel⟩
set_option maxRecDepth 100000 in
set_option maxHeartbeats 8000000 in
theorem parse_walk (s : ByteArray) (w : World) (W : List (List UInt8)) (Q : PG) (hT : RTab w) (hs : s.size ≤ 4096) (hW : cutL 32 s.data.toList = W) (hWB : WBs W)
    (HBAD : Hid (okW W = false → Q = ⟨0, 0, 0, [], [], 26⟩)) (HGOOD : Hid (okW W = true → Q = if guardErr (((hdW W).map valS).getD 0 0) (((hdW W).map valS).getD 1 0) (((hdW W).map valS).getD 2 0) ((tpW W).map valS) ((gnW W).map valS) = 0 then ⟨((hdW W).map valS).getD 0 0, ((hdW W).map valS).getD 1 0, ((hdW W).map valS).getD 2 0, (tpW W).map valS, (gnW W).map valS, 0⟩ else ⟨0, 0, 0, [], [], guardErr (((hdW W).map valS).getD 0 0) (((hdW W).map valS).getD 1 0) (((hdW W).map valS).getD 2 0) ((tpW W).map valS) ((gnW W).map valS)⟩)) :
    Calls Tryz.prog 9 #[.string s] w (KP (KPG Q) w) := by
  have HWB := Lib.hid hWB
  clear hWB
  go_enter Tryz.func9, Tryz.ntmps9
  go_wp2_with (go_at_call 40; refine name_calls ?_; intro w1 e1; refine Hid.out ?_)
  unfold Hid
  have h1 : Below w.heap.size w w1 := by rw [e1]; exact bel
  have R1 := Lib.hid (show Blk w1 w.heap.size #[(.int .i64 0), (.int .i64 0), .slice none 0 0, (.int .i64 0), .slice none 0 0] by rw [e1]; (repeat (first | ((with_reducible refine Blk.at_ ?_); focus (first | rfl | (simp; done) | (simp; omega))) | (with_reducible refine Blk.alloc ?_ _) | (with_reducible refine Blk.below ?_ (by with_reducible assumption)) | (with_reducible refine Blk.drew ?_))))
  clear e1
  refine (split_blk s w1 (hT.below h1) hs hW).mono ?_
  rintro r w2 ⟨rfl, rfl⟩
  have HT := Lib.hid hT
  have HWE := Lib.hid hW
  clear hW hT
  obtain ⟨n, hn⟩ : ∃ n, n = W.length := ⟨_, rfl⟩
  rw [← hn]
  have HNW := Lib.hid hn
  clear hn
  go_wp2_with (go_at_call 41; refine name_calls ?_; intro w3 e3; refine Hid.out ?_)
  unfold Hid
  have h13 : Below w1.heap.size w1 w3 := by rw [e3]; exact bel
  have HB3 := Lib.hid (h1.trans (h13.mono h1.size))
  have R3 := Lib.hid (R1.out.below h13)
  have K2 : Blk w3 w1.heap.size (words W).toArray := by rw [e3]; exact (Calm.Blk.new _ _ _).alloc _
  have K3 : Blk w3 (w1.heap.size + 1) #[.slice (some ⟨w1.heap.size, 0, none⟩) n n, .bool false] := by rw [e3]; refine Calm.Blk.at_ ?_; simp
  have HRD : Hid (RdS (w1.heap.size + 1) W false w3) := Lib.hid (by
    refine ⟨some ⟨w1.heap.size, 0, none⟩, by rw [← HNW.out]; exact K3, fun h0 => ⟨w1.heap.size, 0, rfl, by omega, K2.lt, fun k x hk => ?_⟩⟩
    rw [Nat.zero_add]; exact (K2.c k).trans (by simp [words, hk]))
  have hgl : w1.heap.size + 1 < w3.heap.size := K3.lt
  have hr0 : w.heap.size < w1.heap.size + 1 := by have := R1.out.lt; omega
  obtain ⟨g, hg⟩ : ∃ g, g = w1.heap.size + 1 := ⟨_, rfl⟩
  rw [← hg] at HRD hgl hr0 ⊢
  have HG := Lib.hid hg
  clear e3 h13 K2 K3 hg R1 h1
  refine (word_any g _ _ gW w3 (HWB.out.s0) HRD.out).mono ?_
  rintro r w4 ⟨rfl, hr4, hb4⟩
  have HR4 := Lib.hid (show RdS g (st1 W).1 (st1 W).2 w4 from hr4)
  have R3_4 := Lib.hid (blk_but R3.out (by omega) hb4)
  have HB4 := Lib.hid (HB3.out.trans (hb4.below (Nat.le_of_lt (Nat.lt_of_le_of_lt (Nat.le_refl _) hr0)) HB3.out.size))
  have hgl4 : g < w4.heap.size := Nat.lt_of_lt_of_le hgl hb4.size
  clear hr4 hb4
  go_wp2_with (go_at_call 42; refine Hid.out ?_)
  unfold Hid
  refine (ints_any' g _ _ tW w4 (HWB.out.s1) HR4.out).mono ?_
  rintro r w5 ⟨Bh, ch, rfl, hc5, ho5, hr5, hb5⟩
  have HR5 := Lib.hid (show RdS g (st2 W).1 (st2 W).2 w5 from hr5)
  have R3_4_5 := Lib.hid (blk_but R3_4.out (by omega) hb5)
  have HB5 := Lib.hid (HB4.out.trans (hb5.below (Nat.le_of_lt (Nat.lt_of_le_of_lt (Nat.le_refl _) hr0)) HB4.out.size))
  have hgl5 : g < w5.heap.size := Nat.lt_of_lt_of_le hgl4 hb5.size
  have HCh := Lib.hid hc5
  have HOh : Hid (Off g Bh) := Lib.hid (fun p hp => by have := ho5 p hp; omega)
  have HZh : Hid (Off w.heap.size Bh) := Lib.hid (fun p hp => by have := ho5 p hp; omega)
  clear hc5 ho5
  clear hr5 hb5
  go_wp2_with (go_at_call 41; refine Hid.out ?_)
  unfold Hid
  refine (word_any g _ _ tW w5 (HWB.out.s2) HR5.out).mono ?_
  rintro r w6 ⟨rfl, hr6, hb6⟩
  have HR6 := Lib.hid (show RdS g (st3 W).1 (st3 W).2 w6 from hr6)
  have R3_4_5_6 := Lib.hid (blk_but R3_4_5.out (by omega) hb6)
  have HB6 := Lib.hid (HB5.out.trans (hb6.below (Nat.le_of_lt (Nat.lt_of_le_of_lt (Nat.le_refl _) hr0)) HB5.out.size))
  have hgl6 : g < w6.heap.size := Nat.lt_of_lt_of_le hgl5 hb6.size
  have HCh_6 := Lib.hid (Cells.but HCh.out HOh.out hb6)
  clear hr6 hb6
  go_wp2_with (go_at_call 42; refine Hid.out ?_)
  unfold Hid
  refine (ints_any' g _ _ nW w6 (HWB.out.s3) HR6.out).mono ?_
  rintro r w7 ⟨Bt, ct, rfl, hc7, ho7, hr7, hb7⟩
  have HR7 := Lib.hid (show RdS g (st4 W).1 (st4 W).2 w7 from hr7)
  have R3_4_5_6_7 := Lib.hid (blk_but R3_4_5_6.out (by omega) hb7)
  have HB7 := Lib.hid (HB6.out.trans (hb7.below (Nat.le_of_lt (Nat.lt_of_le_of_lt (Nat.le_refl _) hr0)) HB6.out.size))
  have hgl7 : g < w7.heap.size := Nat.lt_of_lt_of_le hgl6 hb7.size
  have HCh_7 := Lib.hid (Cells.but HCh_6.out HOh.out hb7)
  have HCt := Lib.hid hc7
  have HOt : Hid (Off g Bt) := Lib.hid (fun p hp => by have := ho7 p hp; omega)
  have HZt : Hid (Off w.heap.size Bt) := Lib.hid (fun p hp => by have := ho7 p hp; omega)
  clear hc7 ho7
  clear hr7 hb7
  go_wp2_with (go_at_call 41; refine Hid.out ?_)
  unfold Hid
  refine (word_any g _ _ nW w7 (HWB.out.s4) HR7.out).mono ?_
  rintro r w8 ⟨rfl, hr8, hb8⟩
  have HR8 := Lib.hid (show RdS g (st5 W).1 (st5 W).2 w8 from hr8)
  have R3_4_5_6_7_8 := Lib.hid (blk_but R3_4_5_6_7.out (by omega) hb8)
  have HB8 := Lib.hid (HB7.out.trans (hb8.below (Nat.le_of_lt (Nat.lt_of_le_of_lt (Nat.le_refl _) hr0)) HB7.out.size))
  have hgl8 : g < w8.heap.size := Nat.lt_of_lt_of_le hgl7 hb8.size
  have HCh_8 := Lib.hid (Cells.but HCh_7.out HOh.out hb8)
  have HCt_8 := Lib.hid (Cells.but HCt.out HOt.out hb8)
  clear hr8 hb8
  go_wp2_with (go_at_call 42; refine Hid.out ?_)
  unfold Hid
  refine (ints_any' g _ _ [] w8 (HWB.out.s5) HR8.out).mono ?_
  rintro r w9 ⟨Bg, cg, rfl, hc9, ho9, hr9, hb9⟩
  have HR9 := Lib.hid (show RdS g (st6 W).1 (st6 W).2 w9 from hr9)
  have R3_4_5_6_7_8_9 := Lib.hid (blk_but R3_4_5_6_7_8.out (by omega) hb9)
  have HB9 := Lib.hid (HB8.out.trans (hb9.below (Nat.le_of_lt (Nat.lt_of_le_of_lt (Nat.le_refl _) hr0)) HB8.out.size))
  have hgl9 : g < w9.heap.size := Nat.lt_of_lt_of_le hgl8 hb9.size
  have HCh_9 := Lib.hid (Cells.but HCh_8.out HOh.out hb9)
  have HCt_9 := Lib.hid (Cells.but HCt_8.out HOt.out hb9)
  have HCg := Lib.hid hc9
  have HOg : Hid (Off g Bg) := Lib.hid (fun p hp => by have := ho9 p hp; omega)
  have HZg : Hid (Off w.heap.size Bg) := Lib.hid (fun p hp => by have := ho9 p hp; omega)
  clear hc9 ho9
  clear hr9 hb9
  obtain ⟨A6, k6, c6⟩ := HR9.out
  obtain ⟨f0, f1, fl, ff⟩ := k6.o2
  obtain ⟨q0, q1, q2, q3, q4, ql, qf⟩ := R3_4_5_6_7_8_9.out.o5
  clear k6 c6
  obtain ⟨nh, hnh⟩ : ∃ nh, nh = (preW tW (st1 W).1).length := ⟨_, rfl⟩
  rw [← hnh]
  have HNH := Lib.hid (show nh = (hdW W).length from hnh)
  obtain ⟨nt, hnt⟩ : ∃ nt, nt = (preW nW (st3 W).1).length := ⟨_, rfl⟩
  rw [← hnt]
  have HNT := Lib.hid (show nt = (tpW W).length from hnt)
  obtain ⟨ng, hng⟩ : ∃ ng, ng = (preW [] (st5 W).1).length := ⟨_, rfl⟩
  rw [← hng]
  have HNG := Lib.hid (show ng = (gnW W).length from hng)
  clear hnh hnt hng
  obtain ⟨b6, hb6⟩ : ∃ b6, b6 = (st6 W).2 := ⟨_, rfl⟩
  obtain ⟨n6, hn6⟩ : ∃ n6, n6 = (st6 W).1.length := ⟨_, rfl⟩
  rw [← hb6] at f1
  rw [← hn6] at f0
  have HB6 := Lib.hid hb6
  have HN6 := Lib.hid hn6
  clear hb6 hn6
  cases b6
  rotate_left
  · have HQ := Lib.hid (HBAD.out (by unfold okW; rw [← HB6.out]; rfl))
    go_wp2
    refine name_post ?_
    intro wz ez
    have KF : Blk wz w.heap.size #[(.int .i64 0), (.int .i64 0), .slice none 0 0, (.int .i64 0), .slice none 0 0] := ez.symm ▸ zeros_gblk R3_4_5_6_7_8_9.out
    have HF : Below w.heap.size w wz := ez.symm ▸ zeros_gbelow HB9.out
    refine bodyPost_ret (parse_res rfl rfl KF) rfl ⟨_, rfl, ?_, HF⟩
    rw [HQ.out]
    exact ⟨_, _, rfl, zero_kg _, rfl⟩
  · by_cases h6 : n6 = 0
    rotate_left
    · have HQ := Lib.hid (HBAD.out (by unfold okW; rw [← HB6.out]; rw [HN6.out] at h6; rw [show (st6 W).1.isEmpty = false by rw [← Bool.not_eq_true, List.isEmpty_iff]; intro e; rw [e] at h6; exact h6 rfl]; rfl))
      have hn0 : 0 < (n6 : Int) := by omega
      clear h6
      go_wp2
      refine name_post ?_
      intro wz ez
      have KF : Blk wz w.heap.size #[(.int .i64 0), (.int .i64 0), .slice none 0 0, (.int .i64 0), .slice none 0 0] := ez.symm ▸ zeros_gblk R3_4_5_6_7_8_9.out
      have HF : Below w.heap.size w wz := ez.symm ▸ zeros_gbelow HB9.out
      refine bodyPost_ret (parse_res rfl rfl KF) rfl ⟨_, rfl, ?_, HF⟩
      rw [HQ.out]
      exact ⟨_, _, rfl, zero_kg _, rfl⟩
    · by_cases h3 : nh = 3
      rotate_left
      · have HQ := Lib.hid (HBAD.out (by unfold okW; rw [← HB6.out, decide_eq_false (by rw [← HNH.out]; exact h3), Bool.and_false]; rfl))
        have hn3 : ((nh : Int) != 3) = true := by simp; omega
        have hn33 : ¬ (nh : Int) = 3 := by omega
        subst h6
        go_wp2
        refine name_post ?_
        intro wz ez
        have KF : Blk wz w.heap.size #[(.int .i64 0), (.int .i64 0), .slice none 0 0, (.int .i64 0), .slice none 0 0] := ez.symm ▸ zeros_gblk R3_4_5_6_7_8_9.out
        have HF : Below w.heap.size w wz := ez.symm ▸ zeros_gbelow HB9.out
        refine bodyPost_ret (parse_res rfl rfl KF) rfl ⟨_, rfl, ?_, HF⟩
        rw [HQ.out]
        exact ⟨_, _, rfl, zero_kg _, rfl⟩
      · have HOK := Lib.hid (HGOOD.out (by unfold okW; rw [← HB6.out, decide_eq_true (by rw [← HNH.out]; exact h3), Bool.and_true]; rw [HN6.out] at h6; rw [List.eq_nil_of_length_eq_zero h6]; rfl))
        subst h6 h3
        obtain ⟨bh, oh, hAh, hhl, hhc⟩ := HCh_9.out (by rw [List.length_map]; have := HNH.out; show 0 < (hdW W).length; omega)
        subst hAh
        have hx0 := hhc 0 (by rw [List.length_map]; have := HNH.out; show 0 < (hdW W).length; omega)
        have hx1 := hhc 1 (by rw [List.length_map]; have := HNH.out; show 1 < (hdW W).length; omega)
        have hx2 := hhc 2 (by rw [List.length_map]; have := HNH.out; show 2 < (hdW W).length; omega)
        rw [Nat.add_zero] at hx0
        obtain ⟨x0, hv0⟩ : ∃ x0, x0 = ((preW tW (st1 W).1).map valS).getD 0 0 := ⟨_, rfl⟩
        rw [← hv0] at hx0
        have HX0 := Lib.hid (show x0 = ((hdW W).map valS).getD 0 0 from hv0)
        obtain ⟨x1, hv1⟩ : ∃ x1, x1 = ((preW tW (st1 W).1).map valS).getD 1 0 := ⟨_, rfl⟩
        rw [← hv1] at hx1
        have HX1 := Lib.hid (show x1 = ((hdW W).map valS).getD 1 0 from hv1)
        obtain ⟨x2, hv2⟩ : ∃ x2, x2 = ((preW tW (st1 W).1).map valS).getD 2 0 := ⟨_, rfl⟩
        rw [← hv2] at hx2
        have HX2 := Lib.hid (show x2 = ((hdW W).map valS).getD 2 0 from hv2)
        clear hv0 hv1 hv2 hhc
        go_wp2
        refine Rel.region3 13 (by kernel_rfl) (by kernel_rfl) (by kernel_rfl) ?_
        simp only [List.take_succ_cons, List.take_zero, List.drop_succ_cons, List.drop_zero, List.filterMap_cons, List.filterMap_nil]
        iterate 12 (refine Rel.opz (hn := ?_); (try simp only [List.nil_append, List.cons_append]))
        (apply Rel.allocT3 30 #[(.int .i64 0), (.int .i64 0), .slice none 0 0, (.int .i64 0), .slice none 0 0]; (focus (exact Rel.gno rfl)); (focus (intro a W; go_simp)); (try simp only [List.nil_append, List.cons_append]))
        refine Rel.done3 ?_
        intro x w31 h31 hx
        simp only [Rel.facts, Nat.zero_add, Nat.reduceAdd] at hx
        obtain ⟨e0, e1, e2, e3, e4, e5, e6, e7, e8, e9, e10, e11, ⟨gn, e12, hgn, hG12⟩, _⟩ := hx
        simp only [Rel.fill, Nat.zero_add, Nat.reduceAdd, e0, e1, e2, e3, e4, e5, e6, e7, e8, e9, e10, e11, e12]
        simp only [Act.put, List.setIfInBounds_toArray, List.set_cons_zero, List.set_cons_succ]
        clear e0 e1 e2 e3 e4 e5 e6 e7 e8 e9 e10 e11 e12
        have br_31 := Lib.hid (R3_4_5_6_7_8_9.out.below h31)
        have HB31 := Lib.hid (HB9.out.trans (h31.mono HB9.out.size))
        have bnz := Lib.hid (Calm.Blk.row hG12)
        have HCT := Lib.hid (HCt_9.out.below h31)
        have HCG := Lib.hid (HCg.out.below h31)
        have HH := Lib.hid h31
        clear h31 f0 f1 fl ff q0 q1 q2 q3 q4 ql qf hx0 hx1 hx2
        obtain ⟨z0, z1, z2, z3, z4, zl, zf⟩ := bnz.out.o5
        go_wp2_with (go_at_call 35; refine name_calls ?_; intro wA eA; refine Hid.out ?_)
        unfold Hid
        have KGN := Lib.hid (show Blk wA gn #[(.int .i64 x0), (.int .i64 x1), .slice Bt nt ct, (.int .i64 x2), .slice Bg ng cg] by rw [eA]; exact put5_blk bnz.out _ _ _ _ _)
        have hbA : Below w9.heap.size w9 wA := by rw [eA]; exact put5_below HH.out hgn _ _ _ _ _
        have hbN : But gn w31 wA := by rw [eA]; exact ((((But.put _ 0 _).trans (But.put _ 1 _)).trans (But.put _ 2 _)).trans (But.put _ 3 _)).trans (But.put _ 4 _)
        have HCTA := Lib.hid (HCt_9.out.below hbA)
        have HCGA := Lib.hid (HCg.out.below hbA)
        have RA := Lib.hid (R3_4_5_6_7_8_9.out.below hbA)
        have HBA := Lib.hid (HB9.out.trans (hbA.mono HB9.out.size))
        have hrl := RA.out.lt
        clear eA hbN z0 z1 z2 z3 z4 zl zf bnz
        obtain ⟨GE, hGE⟩ : ∃ GE, GE = guardErr x0 x1 x2 ((tpW W).map valS) ((gnW W).map valS) := ⟨_, rfl⟩
        have hnt5 : nt ≤ 5000 := by rw [HNT.out]; exact Nat.le_trans (preW_len _ _) HWB.out.s3.1
        have hng5 : ng ≤ 5000 := by rw [HNG.out]; exact Nat.le_trans (preW_len _ _) HWB.out.s5.1
        have HCK : Hid (Calls Tryz.prog 35 #[.agg #[(.int .i64 x0), (.int .i64 x1), .slice Bt nt ct, (.int .i64 x2), .slice Bg ng cg]] wA fun r w' => r = .returned (.int .i64 GE) ∧ Below wA.heap.size wA w') := Lib.hid (by
        have e1 : nt = ((tpW W).map valS).length := by rw [List.length_map]; exact HNT.out
        have e2 : ng = ((gnW W).map valS).length := by rw [List.length_map]; exact HNG.out
        rw [hGE, e1, e2]
        exact checkGuard_any x0 x1 x2 _ _ Bt Bg ct cg wA HCTA.out HCGA.out (by omega) (by omega))
        have HGE := Lib.hid hGE
        clear hGE
        refine HCK.out.mono ?_
        rintro r wB ⟨rfl, hbB⟩
        have KGB := Lib.hid (KGN.out.below hbB)
        have RB := Lib.hid (RA.out.below hbB)
        have HBB := Lib.hid (HBA.out.trans (hbB.mono HBA.out.size))
        have HCTB := Lib.hid (HCTA.out.below hbB)
        have HCGB := Lib.hid (HCGA.out.below hbB)
        clear hbB hbA HCK
        obtain ⟨z0, z1, z2, z3, z4, zl, zf⟩ := KGB.out.o5
        obtain ⟨q0, q1, q2, q3, q4, ql, qf⟩ := RB.out.o5
        by_cases hge : GE = 0
        · have HQ : Hid (Q = ⟨x0, x1, x2, (tpW W).map valS, (gnW W).map valS, 0⟩) := Lib.hid (by rw [HOK.out, ← HX0.out, ← HX1.out, ← HX2.out, ← HGE.out, if_pos hge])
          have hge0 : (GE != 0) = false := by simp [hge]
          clear hge
          go_wp2
          refine name_post ?_
          intro wz ez
          have KF : Blk wz w.heap.size #[(.int .i64 x0), (.int .i64 x1), .slice Bt nt ct, (.int .i64 x2), .slice Bg ng cg] := ez.symm ▸ put5_blk RB.out _ _ _ _ _
          have HF : Below w.heap.size w wz := ez.symm ▸ put5_below HBB.out (Nat.le_refl _) _ _ _ _ _
          have hbz : But w.heap.size wB wz := by rw [ez]; exact ((((But.put _ 0 _).trans (But.put _ 1 _)).trans (But.put _ 2 _)).trans (But.put _ 3 _)).trans (But.put _ 4 _)
          refine bodyPost_ret (parse_res rfl rfl KF) rfl ⟨_, rfl, ?_, HF⟩
          rw [HQ.out]
          refine ⟨_, _, rfl, ⟨Bt, ct, Bg, cg, ?_, HCTB.out.but HZt.out hbz, HCGB.out.but HZg.out hbz⟩, rfl⟩
          rw [HNT.out, HNG.out]
          simp
        · have HQ : Hid (Q = ⟨0, 0, 0, [], [], GE⟩) := Lib.hid (by rw [HOK.out, ← HX0.out, ← HX1.out, ← HX2.out, ← HGE.out, if_neg hge])
          have hge0 : (GE != 0) = true := by simp [hge]
          clear hge
          go_wp2
          refine name_post ?_
          intro wz ez
          have KF : Blk wz w.heap.size #[(.int .i64 0), (.int .i64 0), .slice none 0 0, (.int .i64 0), .slice none 0 0] := ez.symm ▸ zeros_gblk RB.out
          have HF : Below w.heap.size w wz := ez.symm ▸ zeros_gbelow HBB.out
          refine bodyPost_ret (parse_res rfl rfl KF) rfl ⟨_, rfl, ?_, HF⟩
          rw [HQ.out]
          exact ⟨_, _, rfl, zero_kg _, rfl⟩
theorem parse_P (s : ByteArray) (w : World) (hT : RTab w) : Calls Tryz.prog 9 #[.string s] w (KP (KPG (parF s.data.toList)) w) := by
  by_cases h : s.size ≤ 4096
  · have hl : ¬ 4096 < s.data.toList.length := by rw [size_list]; omega
    refine parse_walk s w (cutL 32 s.data.toList) _ hT h rfl (wbs ⟨?_, fun x hx => ?_⟩) (Lib.hid (fun e => ?_)) (Lib.hid (fun e => ?_))
    · rw [cutL_count]
      have := List.count_le_length (a := (32 : UInt8)) (l := s.data.toList)
      rw [size_list] at this
      omega
    · have := word_len hx
      rw [size_list] at this
      omega
    · unfold parF
      rw [if_neg hl, if_pos e]
    · unfold parF
      rw [if_neg hl, if_neg (by rw [e]; decide)]
  · have hl : 4096 < s.data.toList.length := by rw [size_list]; omega
    have := parse_long s w (by omega)
    unfold parF
    rw [if_pos hl]
    exact this
end Go.Proofs.YtdeapbihbhoefaaGreatDoor

/- The rows of chapter 8. What the rows' list gives: the table of the conditions, the powers of ten. A world for the witnesses. Arguments opened: guards, sections, signals. -/
namespace Go.Proofs.YtdeapbihbhoefaaGreatDoor
open Go.ChangeShapes Go.WideShapes Go.ChangeAt Go.RowKit Go.Flat
open Calm (bcell)

/-- the rows' list. -/
noncomputable def laidList : List (String × DataW Unit) := [("math/bits.deBruijn32tab", Rows.laid_math_bits_deBruijn32tab), ("math/bits.deBruijn64tab", Rows.laid_math_bits_deBruijn64tab), ("internal/strconv.uint64pow10", Rows.laid_internal_strconv_uint64pow10), ("unicode/utf8.acceptRanges", Rows.laid_unicode_utf8_acceptRanges), ("woofer/protect.conditions", Rows.laid_woofer_protect_conditions), ("unicode/utf8.first", Rows.laid_unicode_utf8_first)]
theorem own : ownKnob Tryz.prog.godebug = none := by kernel_rfl
theorem laidOut : laidOutB Tryz.prog = true := by kernel_rfl
theorem gCond : Tryz.prog.globalNamed "woofer/protect.conditions" = some 0 := by kernel_rfl
theorem tCond : (Tryz.prog.globals[0]?).map (·.type) = some 143 := by kernel_rfl
theorem cellsCond : Tryz.prog.cellsOf 142 = 1 := by kernel_rfl

set_option maxRecDepth 100000 in
theorem cond_of_trod {w : World} {fuel : Nat} {cs : List Value} {b : UInt8} {r : List UInt8} {q : List MemPlace} {f0 : FuncId} (hone : ((List.range Tryz.prog.funcs.size).filter fun f => (Tryz.prog.funcs[f]?).any (·.name.toUTF8.data.toList == b :: r)) = [f0]) (hl : cs.length = 1)
    (h : DataW.trod (funcToken Tryz.prog) Tryz.prog w 0 (fun _ => true) true fuel 142 cs = some (.agg [.held (b :: r)], q)) : cs = [.func (.func f0) #[] #[]] := by
  obtain ⟨y0, n, hy, _, h0⟩ := trod_struct1 Tryz.underlying142 h
  match cs, hl with
  | [v], _ =>
  have h0' : DataW.trod (funcToken Tryz.prog) Tryz.prog w 0 (fun _ => true) true n 140 [v] = some y0 := h0
  obtain ⟨y, q'⟩ := y0
  obtain ⟨rfl, rfl⟩ : DataW.held (b :: r) = y ∧ q = q' := by simpa using hy
  rw [func_of_trod Tryz.underlying140 hone h0']

set_option maxRecDepth 100000 in
theorem lim_of_laid {W : World} (h : laidMetH Tryz.prog laidList W) : Lim W := by
  obtain ⟨g, t, cs, fuel, p, hg, ht, hv, hd⟩ := h.funcs (List.mem_cons_of_mem _ (List.mem_cons_of_mem _ (List.mem_cons_of_mem _ (List.mem_cons_of_mem _ List.mem_cons_self))))
  obtain rfl := Option.some.inj (gCond.symm.trans hg)
  obtain rfl := Option.some.inj (tCond.symm.trans ht)
  obtain ⟨xs, n, _, hx, hl, hxl, hf⟩ := DataW.trod_array Tryz.underlying143 hd
  rw [cellsCond] at hf
  have hl3 : cs.toList.length = 3 := hl.trans (by kernel_rfl)
  obtain ⟨l⟩ := cs
  match l, hl3 with
  | [u0, u1, u2], _ =>
  match xs, hxl with
  | [x0, x1, x2], _ =>
  simp only [Prod.mk.injEq] at hx
  obtain ⟨hx, _⟩ := hx
  have hx' : [x0.1, x1.1, x2.1] = _ := (DataW.agg.inj hx).symm
  obtain ⟨y0, q0⟩ := x0
  obtain ⟨y1, q1⟩ := x1
  obtain ⟨y2, q2⟩ := x2
  simp only [List.cons.injEq, and_true] at hx'
  obtain ⟨rfl, rfl, rfl⟩ := hx'
  have k0 := cond_of_trod (f0 := 136) (by kernel_rfl) rfl (hf 0 (by omega) : _ = some _)
  have k1 := cond_of_trod (f0 := 137) (by kernel_rfl) rfl (hf 1 (by omega) : _ = some _)
  have k2 := cond_of_trod (f0 := 139) (by kernel_rfl) rfl (hf 2 (by omega) : _ = some _)
  have e0 : u0 = .func (.func 136) #[] #[] := by simpa using k0
  have e1 : u1 = .func (.func 137) #[] #[] := by simpa using k1
  have e2 : u2 = .func (.func 139) #[] #[] := by simpa using k2
  subst e0 e1 e2
  have hc : ∀ (i : Nat) (v : Value), (⟨[.func (.func 136) #[] #[], .func (.func 137) #[] #[], .func (.func 139) #[] #[]]⟩ : Array Value)[i]? = some v → W.cell? ⟨0, i, none⟩ = some v := fun i v hi => (World.var?_cell gCond hv i).trans hi
  have h0 := hc 0 _ rfl
  refine ⟨?_, h0, hc 1 _ rfl, hc 2 _ rfl⟩
  rcases Nat.lt_or_ge 0 W.heap.size with h' | h'
  · exact h'
  · unfold World.cell? at h0
    rw [show W.heap[(⟨0, 0, none⟩ : Addr).block]? = none from Array.getElem?_eq_none h'] at h0
    cases h0

theorem tyPow : (Tryz.prog.globals[1]?).map (·.type) = some 159 := by kernel_rfl
set_option maxRecDepth 100000 in
theorem tab_of_laid {W : World} (h : laidMetH Tryz.prog laidList W) : PTab W := by
  refine ⟨lim_of_laid h, ?_⟩
  obtain ⟨⟨ps, hl, _, _⟩, _⟩ : laidMet Tryz.prog [("math/bits.deBruijn32tab", Rows.laid_math_bits_deBruijn32tab), ("math/bits.deBruijn64tab", Rows.laid_math_bits_deBruijn64tab), ("internal/strconv.uint64pow10", Rows.laid_internal_strconv_uint64pow10), ("unicode/utf8.acceptRanges", Rows.laid_unicode_utf8_acceptRanges), ("unicode/utf8.first", Rows.laid_unicode_utf8_first)] W ∧ _ := h
  obtain ⟨_, _, _, _, _, _, _, _, _, _, hl, _⟩ := hl
  obtain ⟨_, _, _, _, _, _, _, _, _, _, hl, _⟩ := hl
  obtain ⟨g2, t2, cs2, fuel2, p2, _, hg2, ht2, hv2, hd2, hl, _⟩ := hl
  obtain rfl := Option.some.inj (gPow.symm.trans hg2)
  obtain rfl := Option.some.inj (tyPow.symm.trans ht2)
  have e : (Rows.laid_internal_strconv_uint64pow10 : DataW Unit) = Lib.tabData .u64 Lib.pow10Tab := by kernel_rfl
  rw [e] at hd2
  unfold Lib.TabIs
  rw [hv2, ← Lib.cells_of_tab Tryz.underlying159 Tryz.underlying146 (by kernel_rfl) (by kernel_rfl) hd2]

set_option maxRecDepth 100000 in
theorem rtab_of_laid {W : World} (h : laidMetH Tryz.prog laidList W) (hsh : W.ShapedOpen Tryz.prog) : RTab W := by
  obtain ⟨m, hm⟩ := cell_of_shapedOpen_int (P := Tryz.prog) (g := 2) (t := 3) (zero := #[(.int .i64 0)]) (k := .i64) hsh (of_decide_eq_true (by kernel_rfl)) (by kernel_rfl) rfl (by kernel_rfl) (by kernel_rfl) Tryz.underlying3
  refine ⟨tab_of_laid h, ?_, m, hm⟩
  rcases Nat.lt_or_ge 2 W.heap.size with h' | h'
  · exact h'
  · unfold World.cell? at hm
    rw [show W.heap[(⟨2, 0, none⟩ : Addr).block]? = none from Array.getElem?_eq_none h'] at hm
    cases hm
/-- the cells of a table of numbers. -/
def cellsData : DataW Unit → Array Value
  | .agg l => (l.map fun x => match x with | .lit (.int k n) => Value.int k n | _ => undef).toArray
  | _ => #[]
/-- the door's world, the library's table laid in it. -/
noncomputable def textDoor (os : Os) : World :=
  let w0 := World.doorLaid Tryz.prog 150 os
  { w0 with heap := w0.heap.modify 3 fun
      | .cells _ t frozen => .cells (cellsData Rows.laid_unicode_utf8_first) t frozen
      | o => o }
theorem laid_met (os : Os) (args : Array Value) : laidMetH Tryz.prog laidList ((textDoor os).forCall (fun _ _ => 0) ⟨#[], args, []⟩).memory :=
  laidMetH_of_parts3 (fuel := 8) (laidMet_of_run' 8 (by kernel_rfl) (by kernel_rfl)) (by kernel_rfl) (by kernel_rfl)
theorem text_vars (os : Os) (args : Array Value) : ((textDoor os).forCall (fun _ _ => 0) ⟨#[], args, []⟩).variablesB Tryz.prog = true := by kernel_rfl
theorem text_rest (os : Os) (args : Array Value) : (((textDoor os).forCall (fun _ _ => 0) ⟨#[], args, []⟩).heap.toList.drop Tryz.prog.globals.size).take ((begin Tryz.prog (fun _ _ => 0) default).world.heap.size - Tryz.prog.globals.size) =
      (begin Tryz.prog (fun _ _ => 0) default).world.heap.toList.drop Tryz.prog.globals.size := by kernel_rfl

section
variable {H : Type} {enc : TypeId × Value → H} {P : Program} {w : World} {base : Nat} {sp : Nat → Bool} {held : Bool}

theorem cell_lt {w : World} {b o : Nat} {v : Value} (h : w.cell? ⟨b, o, none⟩ = some v) : b < w.heap.size := by
  rcases Nat.lt_or_ge b w.heap.size with h' | h'
  · exact h'
  · unfold World.cell? at h
    rw [show w.heap[(⟨b, o, none⟩ : Addr).block]? = none from Array.getElem?_eq_none h'] at h
    cases h

/-- a slice whose elements are made of integers alone. -/
theorem open_slab (m : Nat) {t e : TypeId} {k : Nat} {fuel : Nat} {cs : List Value} {x : DataW H × List MemPlace} (ht : P.underlying t = some (.slice e)) (he : intsB P m e = true) (hk : P.cellsOf e = k) (hk0 : 0 < k)
    (h : DataW.trod enc P w base sp held fuel t cs = some x) :
    ∃ (A : Option Addr) (len cap : Nat) (zs : Nat → List Int), cs = [.slice A len cap] ∧ len ≤ cap ∧ cap ≤ maxLen ∧ (∀ i, i < len → (zs i).length = k) ∧
      (0 < len → ∃ b o, A = some ⟨b, o, none⟩ ∧ b < w.heap.size ∧ ∀ i j, i < len → j < k → w.cell? ⟨b, o + i * k + j, none⟩ = some (.int .i64 ((zs i).getD j 0))) := by
  subst hk
  rcases Deep.open_slice ht h with ⟨rfl, _⟩ | ⟨a, len, cap, m', n, D, Pl, rfl, _, h1, h2, h3, _, h4⟩
  · exact ⟨none, 0, 0, fun _ => [], rfl, Nat.le_refl _, Nat.zero_le _, fun i hi => by omega, fun h0 => by omega⟩
  · have hlm : len ≤ m' := by rw [h3]; split <;> omega
    obtain ⟨zs, hzs⟩ := Deep.choose_lt (n := len) (α := List Int) (p := fun i z => z.length = P.cellsOf e ∧ ∀ j, j < P.cellsOf e → w.cell? ((a.add (i * P.cellsOf e)).add j) = some (.int .i64 (z.getD j 0))) (fun i hi => by
      obtain ⟨cs', hc, hx⟩ := h4 i (by omega)
      obtain ⟨_, hl, hcell⟩ := World.cells?_some hc
      obtain ⟨hcs, _⟩ := cells_of_ints m he hx
      refine ⟨flat m (D i), ?_, fun j hj => ?_⟩
      · have := congrArg List.length hcs
        simp at this
        omega
      · rw [hcell j hj, hcs]
        have hj' : j < (flat m (D i)).length := by
          have := congrArg List.length hcs
          simp at this
          omega
        simp [List.getD, hj'])
    refine ⟨some a, len, cap, zs, rfl, h1, h2, fun i hi => (hzs i hi).1, fun h0 => ?_⟩
    obtain ⟨b, o, s⟩ := a
    have hs : s = none := by
      have := World.cell?_spot ((hzs 0 h0).2 0 hk0)
      simpa [Addr.add] using this
    subst hs
    refine ⟨b, o, rfl, ?_, fun i j hi hj => ?_⟩
    · have := (hzs 0 h0).2 0 hk0
      rw [add_plain, add_plain] at this
      exact cell_lt this
    · have := (hzs i hi).2 j hj
      rwa [add_plain, add_plain] at this

/-- a slice of integers. -/
theorem open_cells (m : Nat) {t e : TypeId} {fuel : Nat} {cs : List Value} {x : DataW H × List MemPlace} (ht : P.underlying t = some (.slice e)) (he : intsB P m e = true) (hk : P.cellsOf e = 1)
    (h : DataW.trod enc P w base sp held fuel t cs = some x) : ∃ (A : Option Addr) (cap : Nat) (zs : List Int), cs = [.slice A zs.length cap] ∧ zs.length ≤ cap ∧ cap ≤ maxLen ∧ Cells w A zs := by
  obtain ⟨A, len, cap, zs, rfl, h1, h2, _, h3⟩ := open_slab m ht he hk (by omega) h
  refine ⟨A, cap, (List.range len).map fun i => (zs i).getD 0 0, by simp, by simpa using h1, h2, fun h0 => ?_⟩
  obtain ⟨b, o, hA, hb, hc⟩ := h3 (by simpa using h0)
  refine ⟨b, o, hA, hb, fun k hk => ?_⟩
  have hk' : k < len := by simpa using hk
  have := hc k 0 hk' (by omega)
  simp only [Nat.mul_one, Nat.add_zero] at this
  rw [this]
  simp [List.getD, hk']
end

set_option maxRecDepth 100000 in
/-- a guard, opened: three integers and two slices of integers. -/
theorem open_guard {H : Type} {enc : TypeId × Value → H} {w : World} {base : Nat} {r : Reach} {b0 : Nat} {sp : Nat → Bool} {held : Bool} {v : Value} {d : DataW H} {p : List MemPlace}
    (hv : Value.okWide Tryz.prog w r b0 24 v) (hd : DataW.Trod enc Tryz.prog w base sp held 24 v d p) :
    ∃ (lk ht rc : Int) (A1 A2 : Option Addr) (c1 c2 : Nat) (ts gs : List Int), v = .agg #[(.int .i64 lk), (.int .i64 ht), .slice A1 ts.length c1, (.int .i64 rc), .slice A2 gs.length c2] ∧ Cells w A1 ts ∧ Cells w A2 gs := by
  obtain ⟨cs, rfl, hsz⟩ := okWide_struct Tryz.underlying24 hv
  obtain ⟨fuel, hf⟩ := hd
  obtain ⟨xs, n, _, _, hl, hxl, hf⟩ := DataW.trod_struct Tryz.underlying24 hf
  rw [show Tryz.prog.cellsOf 24 = 5 by kernel_rfl] at hsz
  obtain ⟨l⟩ := cs
  match l, hsz with
  | [u0, u1, u2, u3, u4], _ =>
  match xs, hxl with
  | [x0, x1, x2, x3, x4], _ =>
  have hi : Flat.intsB Tryz.prog 3 3 = true := by kernel_rfl
  have h0 : DataW.trod enc Tryz.prog w base sp held n 3 [u0] = some x0 := hf 0 _ rfl
  have h1 : DataW.trod enc Tryz.prog w base sp held n 3 [u1] = some x1 := hf 1 _ rfl
  have h2 : DataW.trod enc Tryz.prog w base sp held n 22 [u2] = some x2 := hf 2 _ rfl
  have h3 : DataW.trod enc Tryz.prog w base sp held n 3 [u3] = some x3 := hf 3 _ rfl
  have h4 : DataW.trod enc Tryz.prog w base sp held n 22 [u4] = some x4 := hf 4 _ rfl
  obtain ⟨lk, e0, _, _⟩ := DataW.trod_int Tryz.underlying3 h0
  obtain ⟨ht, e1, _, _⟩ := DataW.trod_int Tryz.underlying3 h1
  obtain ⟨rc, e3, _, _⟩ := DataW.trod_int Tryz.underlying3 h3
  obtain ⟨A1, c1, ts, e2, _, _, k1⟩ := open_cells 3 Tryz.underlying22 hi (by kernel_rfl) h2
  obtain ⟨A2, c2, gs, e4, _, _, k2⟩ := open_cells 3 Tryz.underlying22 hi (by kernel_rfl) h4
  obtain rfl : u0 = _ := by simpa using e0
  obtain rfl : u1 = _ := by simpa using e1
  obtain rfl : u2 = _ := by simpa using e2
  obtain rfl : u3 = _ := by simpa using e3
  obtain rfl : u4 = _ := by simpa using e4
  exact ⟨lk, ht, rc, A1, A2, c1, c2, ts, gs, rfl, k1, k2⟩

set_option maxRecDepth 100000 in
/-- a state, opened: two integers and a slice of integers. -/
theorem open_state {H : Type} {enc : TypeId × Value → H} {w : World} {base : Nat} {r : Reach} {b0 : Nat} {sp : Nat → Bool} {held : Bool} {v : Value} {d : DataW H} {p : List MemPlace}
    (hv : Value.okWide Tryz.prog w r b0 42 v) (hd : DataW.Trod enc Tryz.prog w base sp held 42 v d p) :
    ∃ (h lv : Int) (A : Option Addr) (c : Nat) (l : List Int), v = .agg #[(.int .i64 h), (.int .i64 lv), .slice A l.length c] ∧ Cells w A l := by
  obtain ⟨cs, rfl, hsz⟩ := okWide_struct Tryz.underlying42 hv
  obtain ⟨fuel, hf⟩ := hd
  obtain ⟨xs, n, _, _, hl, hxl, hf⟩ := DataW.trod_struct Tryz.underlying42 hf
  rw [show Tryz.prog.cellsOf 42 = 3 by kernel_rfl] at hsz
  obtain ⟨l⟩ := cs
  match l, hsz with
  | [u0, u1, u2], _ =>
  match xs, hxl with
  | [x0, x1, x2], _ =>
  have hi : Flat.intsB Tryz.prog 3 3 = true := by kernel_rfl
  have h0 : DataW.trod enc Tryz.prog w base sp held n 3 [u0] = some x0 := hf 0 _ rfl
  have h1 : DataW.trod enc Tryz.prog w base sp held n 3 [u1] = some x1 := hf 1 _ rfl
  have h2 : DataW.trod enc Tryz.prog w base sp held n 22 [u2] = some x2 := hf 2 _ rfl
  obtain ⟨a, e0, _, _⟩ := DataW.trod_int Tryz.underlying3 h0
  obtain ⟨b, e1, _, _⟩ := DataW.trod_int Tryz.underlying3 h1
  obtain ⟨A1, c1, ts, e2, _, _, k1⟩ := open_cells 3 Tryz.underlying22 hi (by kernel_rfl) h2
  obtain rfl : u0 = _ := by simpa using e0
  obtain rfl : u1 = _ := by simpa using e1
  obtain rfl : u2 = _ := by simpa using e2
  exact ⟨a, b, A1, c1, ts, rfl, k1⟩
end Go.Proofs.YtdeapbihbhoefaaGreatDoor

/- Plain laws of ProtectReads: texts there and back; less heat; safe states without outputs. -/
namespace Go.Proofs.YtdeapbihbhoefaaGreatDoor
open Go.RowKit
open Go.Lib

theorem join_cons2 (x y : List UInt8) (t : List (List UInt8)) : join (x :: y :: t) [32] = x ++ 32 :: join (y :: t) [32] := by
  rw [join_cons, join_cons]
  simp [joinTail]
theorem join_cut : ∀ l : List UInt8, join (cutL 32 l) [32] = l
  | [] => by simp [cutL, join_one]
  | x :: r => by
    have ih := join_cut r
    have hne := cutL_ne 32 r
    unfold cutL
    by_cases h : x = 32
    · rw [if_pos h]
      cases hr : cutL 32 r with
      | nil => exact absurd hr hne
      | cons a t =>
        rw [hr] at ih
        rw [join_cons2, ih, h]
        rfl
    · rw [if_neg h]
      cases hr : cutL 32 r with
      | nil => exact absurd hr hne
      | cons a t =>
        rw [hr] at ih
        rw [join_cons] at ih ⊢
        rw [← ih]
        rfl
theorem cut_word : ∀ {x : List UInt8}, (∀ c ∈ x, c ≠ 32) → cutL 32 x = [x]
  | [], _ => rfl
  | c :: x, h => by
    unfold cutL
    rw [if_neg (h c (List.mem_cons_self ..)), cut_word (fun z hz => h z (List.mem_cons_of_mem _ hz))]
theorem cut_blank : ∀ {x : List UInt8} (l : List UInt8), (∀ c ∈ x, c ≠ 32) → cutL 32 (x ++ 32 :: l) = x :: cutL 32 l
  | [], l, _ => by simp [cutL]
  | c :: x, l, h => by
    have ih := cut_blank (x := x) l (fun z hz => h z (List.mem_cons_of_mem _ hz))
    rw [List.cons_append]
    conv => lhs; unfold cutL
    rw [if_neg (h c (List.mem_cons_self ..)), ih]
theorem cut_join : ∀ {ws : List (List UInt8)}, ws ≠ [] → (∀ x ∈ ws, ∀ c ∈ x, c ≠ 32) → cutL 32 (join ws [32]) = ws
  | [], h, _ => absurd rfl h
  | [x], _, h => by rw [join_one]; exact cut_word (h x (List.mem_cons_self ..))
  | x :: y :: t, _, h => by
    have ih := cut_join (ws := y :: t) (by simp) (fun z hz => h z (List.mem_cons_of_mem _ hz))
    rw [join_cons2, cut_blank _ (h x (List.mem_cons_self ..)), ih]
theorem itoa_blank {n : Int} : ∀ c ∈ itoa n, c ≠ 32 := by
  intro c hc e
  subst e
  unfold itoa at hc
  have hd : ∀ u : Nat, (32 : UInt8) ∉ decDigits u := fun u hm => by
    have h2 := (canon_dec u).1.2.1
    rw [List.all_eq_true] at h2
    have := h2 _ hm
    simp [digB] at this
  split at hc
  · rcases List.mem_cons.1 hc with h | h
    · simp at h
    · exact hd _ h
  · exact hd _ hc
theorem marks_blank : (∀ c ∈ gW, c ≠ 32) ∧ (∀ c ∈ tW, c ≠ 32) ∧ (∀ c ∈ nW, c ≠ 32) := by decide
theorem wordsG_eq (lk ht rc : Int) (ts gs : List Int) : wordsG lk ht rc ts gs = gW :: [itoa lk, itoa ht, itoa rc] ++ tW :: ts.map itoa ++ nW :: gs.map itoa := by
  unfold wordsG
  simp [gW, tW, nW, guardW, tapsW, gainsW]
theorem wordsG_blank (lk ht rc : Int) (ts gs : List Int) : ∀ x ∈ wordsG lk ht rc ts gs, ∀ c ∈ x, c ≠ 32 := by
  obtain ⟨m1, m2, m3⟩ := marks_blank
  rw [wordsG_eq]
  intro x hx
  simp only [List.mem_append, List.mem_cons, List.mem_map, List.not_mem_nil, or_false] at hx
  rcases hx with ((rfl | rfl | rfl | rfl) | rfl | ⟨n, _, rfl⟩) | rfl | ⟨n, _, rfl⟩
  · exact m1
  · exact itoa_blank
  · exact itoa_blank
  · exact itoa_blank
  · exact m2
  · exact itoa_blank
  · exact m3
  · exact itoa_blank
theorem three_get {l : List Int} (h : l.length = 3) : l = [l.getD 0 0, l.getD 1 0, l.getD 2 0] := by
  match l, h with
  | [a, b, c], _ => rfl
/-- whatever is parsed is printed as it was. -/
theorem parF_print {l : List UInt8} (h : (parF l).err = 0) : guardErr (parF l).lk (parF l).ht (parF l).rc (parF l).ts (parF l).gs = 0 ∧ textG (parF l).lk (parF l).ht (parF l).rc (parF l).ts (parF l).gs = l := by
  unfold parF at h ⊢
  by_cases h1 : 4096 < l.length
  · rw [if_pos h1] at h; cases h
  · rw [if_neg h1] at h ⊢
    by_cases h2 : okW (cutL 32 l) = false
    · rw [if_pos h2] at h; cases h
    · rw [if_neg h2] at h ⊢
      by_cases h3 : guardErr (((hdW (cutL 32 l)).map valS).getD 0 0) (((hdW (cutL 32 l)).map valS).getD 1 0) (((hdW (cutL 32 l)).map valS).getD 2 0) ((tpW (cutL 32 l)).map valS) ((gnW (cutL 32 l)).map valS) = 0
      · rw [if_pos h3]
        refine ⟨h3, ?_⟩
        obtain ⟨e1, a1, a2, a3, e2⟩ := okW_words (W := cutL 32 l) (by rcases Bool.eq_false_or_eq_true (okW (cutL 32 l)) with h | h; exact h; exact absurd h h2)
        unfold textG
        rw [wordsG_eq]
        have e3 := three_get (l := (hdW (cutL 32 l)).map valS) (by simpa using e2)
        have e4 := itoa_all a1
        rw [e3] at e4
        simp only [List.map_cons, List.map_nil] at e4
        show join (gW :: [itoa _, itoa _, itoa _] ++ tW :: List.map itoa (List.map valS _) ++ nW :: List.map itoa (List.map valS _)) [32] = l
        rw [e4, itoa_all a2, itoa_all a3, ← e1]
        exact join_cut l
      · rw [if_neg h3] at h
        exact absurd h h3
theorem itoa_len {n : Int} (h1 : -1000000000 < n) (h2 : n < 1000000000) : (itoa n).length ≤ 10 := by
  unfold itoa
  split
  · have := dec_len (u := n.natAbs) (by omega)
    simp
    omega
  · have := dec_len (u := n.toNat) (by omega)
    omega
theorem join_len {ws : List (List UInt8)} {b : Nat} (h : ∀ x ∈ ws, x.length ≤ b) : (join ws [32]).length ≤ (b + 1) * ws.length := by
  induction ws with
  | nil => simp [join_nil]
  | cons x t ih =>
    have h1 := h x (List.mem_cons_self ..)
    have h2 := ih (fun z hz => h z (List.mem_cons_of_mem _ hz))
    cases t with
    | nil => rw [join_one]; simp; omega
    | cons y t =>
      rw [join_cons2]
      simp only [List.length_append, List.length_cons] at h2 ⊢
      rw [Nat.mul_add (b + 1) (t.length + 1) 1]
      omega
/-- a guard is parsed as it was printed. -/
theorem parF_text {lk ht rc : Int} {ts gs : List Int} (hg : guardErr lk ht rc ts gs = 0) : parF (textG lk ht rc ts gs) = ⟨lk, ht, rc, ts, gs, 0⟩ := by
  have hV := guard_valid hg
  obtain ⟨v1, v2⟩ := hV.lk
  obtain ⟨v3, v4⟩ := hV.ht
  obtain ⟨v5, v6⟩ := hV.rc
  have vt := hV.tl
  have vg := hV.gl
  have bt : ∀ x ∈ ts, -1000000000 < x ∧ x < 1000000000 := fun x hx => by have := hV.tb x hx; omega
  have bg : ∀ x ∈ gs, -1000000000 < x ∧ x < 1000000000 := fun x hx => by
    obtain ⟨k, hk, e⟩ := List.mem_iff_getElem.1 hx
    have := hV.gb k
    rw [List.getD_eq_getElem?_getD, List.getElem?_eq_getElem hk] at this
    simp only [Option.getD_some] at this
    rw [e] at this
    omega
  have b3 : ∀ x ∈ [lk, ht, rc], -1000000000 < x ∧ x < 1000000000 := fun x hx => by
    simp only [List.mem_cons, List.not_mem_nil, or_false] at hx
    rcases hx with rfl | rfl | rfl <;> omega
  obtain ⟨a1, q1⟩ := all_itoa b3
  obtain ⟨a2, q2⟩ := all_itoa bt
  obtain ⟨a3, q3⟩ := all_itoa bg
  have hc : cutL 32 (textG lk ht rc ts gs) = gW :: [lk, ht, rc].map itoa ++ tW :: ts.map itoa ++ nW :: gs.map itoa := by
    unfold textG
    rw [cut_join (by rw [wordsG_eq]; simp) (wordsG_blank _ _ _ _ _), wordsG_eq]
    rfl
  have hl : ¬ 4096 < (textG lk ht rc ts gs).length := by
    have h1 : ∀ x ∈ wordsG lk ht rc ts gs, x.length ≤ 10 := by
      rw [wordsG_eq]
      intro x hx
      simp only [List.mem_append, List.mem_cons, List.mem_map, List.not_mem_nil, or_false] at hx
      rcases hx with ((rfl | rfl | rfl | rfl) | rfl | ⟨n, hn, rfl⟩) | rfl | ⟨n, hn, rfl⟩
      · decide
      · exact itoa_len (by omega) (by omega)
      · exact itoa_len (by omega) (by omega)
      · exact itoa_len (by omega) (by omega)
      · decide
      · exact itoa_len (bt n hn).1 (bt n hn).2
      · decide
      · exact itoa_len (bg n hn).1 (bg n hn).2
    have h2 := join_len h1
    have h3 : (wordsG lk ht rc ts gs).length ≤ 30 := by
      rw [wordsG_eq]
      simp
      omega
    unfold textG
    have : (10 + 1) * (wordsG lk ht rc ts gs).length ≤ 11 * 30 := Nat.mul_le_mul_left _ h3
    omega
  obtain ⟨o1, o2, o3, o4⟩ := okW_of a1 a2 a3 rfl
  unfold parF
  rw [if_neg hl, hc, if_neg (by rw [o1]; decide), o2, o3, o4, q1, q2, q3]
  exact if_pos hg
/-- less heat leaves no more. -/
theorem coolF_mono (lk : Int) {a b : Int} (h : a ≤ b) : coolF lk a ≤ coolF lk b := by
  have hp : (0 : Int) < 2 ^ lk.toNat := Int.pow_pos (by decide)
  unfold coolF
  have h1 : b / 2 ^ lk.toNat ≤ a / 2 ^ lk.toNat + (b - a) := by
    have e : b ≤ a + (b - a) * 2 ^ lk.toNat := by
      have : (b - a) * 1 ≤ (b - a) * 2 ^ lk.toNat := Int.mul_le_mul_of_nonneg_left (by omega) (by omega)
      omega
    have h2 := Int.ediv_le_ediv hp e
    rw [Int.add_mul_ediv_right _ _ (by omega)] at h2
    exact h2
  omega
theorem exF_psK (ts ps : List Int) (k : Nat) (h : k < ps.length) : (tailsF ts ps).getD k 0 = exF ts (psK ps k) 0 := by
  unfold tailsF tailsL
  rw [List.getD_eq_getElem?_getD, List.getElem?_map, List.getElem?_range h]
  rfl
/-- the state behind k steps without outputs. -/
theorem still_st {lk ht rc h lv : Int} {ts gs ps : List Int} (s : StV lk ht rc ts gs h lv ps) : ∀ k, StV lk ht rc ts gs (coolK lk h k) lv (psK ps k)
  | 0 => s
  | k + 1 => by
    have ih := still_st s k
    have hb := coolF_bd lk ih.h.1
    have h2 := ih.h
    exact ⟨ih.g, ih.v, by simp only [coolK]; omega, ih.lv, by rw [psK_len]; exact s.pl, fun z hz => inB_push ih.pb (by omega) z hz⟩
theorem still_safe {lk ht rc h lv : Int} {ts gs ps : List Int} (s : StV lk ht rc ts gs h lv ps) (hf : fineF ht rc h 0 ts ps = true) : ∀ k, fineF ht rc (coolK lk h k) 0 ts (psK ps k) = true
  | 0 => hf
  | k + 1 => by
    have ih := still_safe s hf k
    have hS := still_st s k
    obtain ⟨h1, h2, h3⟩ := fineF_true ih
    have hr := s.v.rc.1
    have hG : Good ht rc ts gs ⟨coolK lk h k, lv.toNat, psK ps k⟩ := ⟨⟨hS.h.1, h1⟩, by have := hS.lv; show lv.toNat < _; omega, by rw [psK_len]; exact s.pl, hS.pb, h3⟩
    obtain ⟨f1, _, f3⟩ := fineF_true (fine_zero (lk := lk) s.v hG)
    have e0 : (0 : Int) * 0 = 0 := rfl
    simp only [e0, Int.add_zero] at f1
    unfold fineF
    show (decide (coolF lk (coolK lk h k) ≤ ht) && !decide (rc < absI 0) && !farAny rc (tailsF ts (pushL (psK ps k) 0))) = true
    rw [decide_eq_true f1, absI_zero, decide_eq_false (by omega), f3]
    rfl
end Go.Proofs.YtdeapbihbhoefaaGreatDoor
