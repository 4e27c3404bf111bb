import Derived.Test.YtlgdenihddkjaaaDoorRw
import Derived.Deep.CutRange
namespace Go.Proofs.YtlgdenihddkjaaaDoor
set_option linter.unusedSimpArgs false
set_option linter.unusedVariables false
open Go.RowKit Go.Lib
abbrev RR := Int × Int × Int × Int
/-- The clock and the calendar of what was read. -/
def calR (t5 t8 t11 t14 t17 L : Int) (rest : RR) : RR :=
  if t5 < 1 ∨ 12 < t5 then (0, 0, 5, 4) else if t8 < 1 ∨ L < t8 then (0, 0, 8, 4) else if 23 < t11 then (0, 0, 11, 4) else if 59 < t14 then (0, 0, 14, 4) else if 59 < t17 then (0, 0, 17, 4) else rest
def endR (g : Int → Bool) (sec v : Int) : RR := if g sec = true then (sec, v, 0, 0) else (0, 0, 0, 4)
def secR (D t11 t14 t17 : Int) : Int := 86400 * D + 3600 * t11 + 60 * t14 + t17
def zoneR (k tz tz3 : Int) (rest : RR) : RR := if 23 < tz then (0, 0, k + 1, 4) else if 59 < tz3 then (0, 0, k + 4, 4) else rest
@[reducible] def patZ : ByteArray := ⟨#[48, 48, 58, 48, 48]⟩
def fitZ (s : ByteArray) (z j : Nat) : Prop := ∀ (h1 : j < patZ.size) (h2 : z + j < s.size), fitS (patZ[j].toNat : Int) (s[z + j].toNat : Int) = true
/-- What the digit at j is worth, and the digits so far. -/
def fP : Nat → Int
  | 0 => 100000000
  | j + 1 => Int.tdiv (fP j) 10
def fV (d : Nat → Int) : Nat → Int
  | 0 => 0
  | j + 1 => fV d j + fP j * d j
theorem fP_le : ∀ j, 0 ≤ fP j ∧ fP j ≤ 100000000
  | 0 => by decide
  | j + 1 => by
    have h := fP_le j
    show 0 ≤ Int.tdiv (fP j) 10 ∧ Int.tdiv (fP j) 10 ≤ 100000000
    rw [Int.tdiv_eq_ediv_of_nonneg h.1]
    omega
theorem fV_le (d : Nat → Int) (hd : ∀ j, 0 ≤ d j ∧ d j ≤ 9) : ∀ j, 0 ≤ fV d j ∧ fV d j ≤ 900000000 * j
  | 0 => ⟨Int.le_refl _, by simp [fV]⟩
  | j + 1 => by
    have h := fV_le d hd j
    have hp := fP_le j
    have h1 : 0 ≤ fP j * d j := Int.mul_nonneg hp.1 (hd j).1
    have h2 : fP j * d j ≤ 100000000 * 9 := Int.mul_le_mul hp.2 (hd j).2 (hd j).1 (by decide)
    show 0 ≤ fV d j + fP j * d j ∧ fV d j + fP j * d j ≤ _
    omega
/-- Behind the seconds there is no fraction, or one of n digits; then place p, value v. -/
def FracP (s : ByteArray) (p : Nat) (v : Int) (dot : Bool) : Prop :=
  (dot = false ∧ p = 19 ∧ v = 0 ∧ ∀ h : 19 < s.size, ¬ (s[19].toNat : Int) = 46) ∨
  (dot = true ∧ (∃ h : 19 < s.size, (s[19].toNat : Int) = 46) ∧ ∃ (n : Nat) (d : Nat → Int), 1 ≤ n ∧ n ≤ 9 ∧ (∀ j, 0 ≤ d j ∧ d j ≤ 9) ∧ (∀ j, j < n → 20 + j < s.size ∧ ∀ h : 20 + j < s.size, (s[20 + j].toNat : Int) = d j + 48) ∧
    p = 20 + n ∧ v = fV d n ∧ p ≤ s.size ∧ (9 ≤ n ∨ (20 + n < s.size ∧ ∀ h : 20 + n < s.size, fitS 48 (s[20 + n].toNat : Int) = false)))
/-- The stamp's block holds zero yet, and nothing of the caller's has turned. -/
def St (w x : World) : Prop := Below w.heap.size w x ∧ x.heap[w.heap.size]? = some (.cells #[.int .i64 0, .int .i64 0] 31 (0, 0))
theorem St.new (w : World) : St w (w.alloc (.cells #[.int .i64 0, .int .i64 0] 31 (0, 0))) := ⟨(Below.refl _ _).alloc (Nat.le_refl _) _, blk_new w _⟩
theorem St.drew {w x : World} (h : St w x) : St w x.drew := ⟨Below.drew h.1, h.2⟩
theorem St.to {w x y : World} (h : St w x) (hb : Below x.heap.size x y) : St w y := ⟨below_to h.1 hb, below_blk hb h.2⟩
theorem St.sc {w x : World} (h : St w x) : St w x ∧ x.cell? ⟨w.heap.size, 0, none⟩ = some (.int .i64 0) ∧ x.cell? ⟨w.heap.size, 1, none⟩ = some (.int .i64 0) ∧ x.frozen? ⟨w.heap.size, 0, none⟩ = false ∧ x.frozen? ⟨w.heap.size, 1, none⟩ = false :=
  ⟨h, (blk_cell h.2 0).trans rfl, (blk_cell h.2 1).trans rfl, blk_fz h.2 0, blk_fz h.2 1⟩
theorem St.fin {w x : World} (h : St w x) (a b : Value) : Below w.heap.size w ((x.setCell ⟨w.heap.size, 0, none⟩ a).setCell ⟨w.heap.size, 1, none⟩ b) := (Below.setCell h.1 (Nat.le_refl _) _).setCell (Nat.le_refl _) _
theorem fits_st (b : Bool) (p c : Int) (w x : World) (h : fitS p c = b) (hS : St w x) : Calls Tryd.prog 33 #[.int .u8 p, .int .u8 c] x fun e w' => e = .returned (.bool b) ∧ St w w' :=
  Calls.mono (fits_is b p c x h) fun e w' ⟨h1, h2⟩ => ⟨h1, hS.to h2⟩
/-- A call that turns nothing of what is there. -/
def Tells (f : Nat) (xs : Array Value) (v : Value) : Prop := ∀ x, Calls Tryd.prog f xs x fun e w' => e = .returned v ∧ Below x.heap.size x w'
theorem Tells.st {f : Nat} {xs : Array Value} {v : Value} (h : Tells f xs v) (w : World) : ∀ x, St w x → Calls Tryd.prog f xs x fun e w' => e = .returned v ∧ St w w' ∧ w'.cell? ⟨w.heap.size, 0, none⟩ = some (.int .i64 0) ∧ w'.cell? ⟨w.heap.size, 1, none⟩ = some (.int .i64 0) ∧ w'.frozen? ⟨w.heap.size, 0, none⟩ = false ∧ w'.frozen? ⟨w.heap.size, 1, none⟩ = false :=
  fun x hS => Calls.mono (h x) fun e w' ⟨h1, h2⟩ => ⟨h1, (hS.to h2).sc⟩
theorem Tells.new {f : Nat} {xs : Array Value} {v : Value} (h : Tells f xs v) (w : World) (a b : Value) : ∀ x, St w x → Calls Tryd.prog f xs (x.alloc (.cells #[a, b] 31 (0, 0))) fun e w' => e = .returned v ∧ (St w w' ∧ w'.cell? ⟨w.heap.size, 0, none⟩ = some (.int .i64 0) ∧ w'.cell? ⟨w.heap.size, 1, none⟩ = some (.int .i64 0) ∧ w'.frozen? ⟨w.heap.size, 0, none⟩ = false ∧ w'.frozen? ⟨w.heap.size, 1, none⟩ = false) ∧ w'.cell? ⟨x.heap.size, 0, none⟩ = some a ∧ w'.cell? ⟨x.heap.size, 1, none⟩ = some b :=
  fun x hS => Calls.mono (h _) fun e w' ⟨h1, h2⟩ => ⟨h1, (show St w w' from ⟨below_to (hS.1.alloc hS.1.size _) h2, below_blk h2 (below_blk ((Below.refl _ _).alloc (Nat.le_refl _) _) hS.2)⟩).sc, (blk_cell (below_blk h2 (blk_new _ _)) 0).trans rfl, (blk_cell (below_blk h2 (blk_new _ _)) 1).trans rfl⟩
/-- The zone's two numbers. -/
structure ToldZ (s : ByteArray) (k : Nat) (tz tz3 : Int) : Prop where
  hz : Tells 34 #[.string s, .int .i64 ((k : Int) + 1)] (.int .i64 tz)
  hz3 : Tells 34 #[.string s, .int .i64 ((k : Int) + 4)] (.int .i64 tz3)
  bz : 0 ≤ tz ∧ tz ≤ 99
  bz3 : 0 ≤ tz3 ∧ tz3 ≤ 99
/-- What the parts of the reading are told. -/
structure Told (s : ByteArray) (t0 t2 t5 t8 t11 t14 t17 L D v : Int) (g : Int → Bool) : Prop where
  h0 : Tells 34 #[.string s, .int .i64 0] (.int .i64 t0)
  h2 : Tells 34 #[.string s, .int .i64 2] (.int .i64 t2)
  h5 : Tells 34 #[.string s, .int .i64 5] (.int .i64 t5)
  h8 : Tells 34 #[.string s, .int .i64 8] (.int .i64 t8)
  h11 : Tells 34 #[.string s, .int .i64 11] (.int .i64 t11)
  h14 : Tells 34 #[.string s, .int .i64 14] (.int .i64 t14)
  h17 : Tells 34 #[.string s, .int .i64 17] (.int .i64 t17)
  hL : 1 ≤ t5 → t5 ≤ 12 → Tells 35 #[.int .i64 (100 * t0 + t2), .int .i64 t5] (.int .i64 L)
  hD : 1 ≤ t5 → t5 ≤ 12 → 1 ≤ t8 → t8 ≤ L → Tells 19 #[.int .i64 (100 * t0 + t2), .int .i64 t5, .int .i64 t8] (.tuple #[.int .i64 D, .int .i64 0, .int .i64 0])
  hG : ∀ sec, Tells 14 #[.agg #[.int .i64 sec, .int .i64 v]] (.bool (g sec))
  b0 : 0 ≤ t0 ∧ t0 ≤ 99
  b2 : 0 ≤ t2 ∧ t2 ≤ 99
  b11 : 0 ≤ t11 ∧ t11 ≤ 99
  b14 : 0 ≤ t14 ∧ t14 ≤ 99
  b17 : 0 ≤ t17 ∧ t17 ≤ 99
  bD : -10000000 ≤ D ∧ D ≤ 10000000

/-- What is behind the first n statements. -/
def dropB : Nat → Option Code → Option Code
  | 0, x => x
  | n + 1, some (.seq _ c) => dropB n (some c)
  | _, _ => none
theorem wp_code {P : Program} {n : Nat} {b : Option Code} {c c' : Code} {Q : Exit → Act → World → Prop} {a : Act} {w : World} (h : dropB n b = some c) (h' : dropB n b = some c') (H : Code.wp P c Q a w) : Code.wp P c' Q a w := by
  rw [h] at h'; cases h'; exact H
theorem wp_stop {P : Program} {s r : Code} {Q : Exit → Act → World → Prop} {a : Act} {w : World} (J : Act → World → Prop) (hJ : ∀ a w, J a w → r.wp P Q a w)
    (first : ∀ (K : Act → World → Prop) (Q' : Exit → Act → World → Prop), (∀ a' w', Met J a' w' → K a' w') → s.wp P (Exit.then K Q') a w) : (s.seq r).wp P Q a w := by
  apply wp_seq_k
  intro K hK
  exact first K Q (fun a' w' h => hK a' w' (hJ a' w' h))
/-- What Parse is to tell. -/
def RQ (w : World) (r : RR) (e : Ending) (w' : World) : Prop := e = .returned (.tuple #[.agg #[.int .i64 r.1, .int .i64 r.2.1], .int .i64 r.2.2.1, .int .i64 r.2.2.2]) ∧ Below w.heap.size w w'
set_option maxRecDepth 20000 in
def YH (c : Code) (w : World) (r : RR) (R : Value → Value → Value → Value → Value → Value → Value → Value → Value → Value → Value →  Prop) : Prop :=
  ∀ (x0 x1 x2 x3 x4 x5 x6 x7 x8 x9 x10 x11 x12 x13 x14 x15 x16 x17 x18 x19 x20 x21 x22 x23 x24 x25 x26 x27 x28 x29 x30 x31 x32 x33 x34 x35 x36 x37 x38 x39 x40 x41 x42 x43 x44 x45 x46 x47 x48 x49 x50 x51 x52 x53 x54 x55 x56 x57 x58 x59 x60 x61 x62 x63 x64 x65 x66 x67 x68 x69 x70 x71 x72 x73 x74 x75 x76 x77 x78 x79 x80 x81 x82 x83 x84 x85 x86 x87 x88 x89 x90 x91 x92 x93 x94 x95 x96 x97 x98 x99 x100 x101 x102 x103 x104 x105 x106 x107 x108 x109 x110 x111 x112 x113 x114 x115 x116 x117 x118 x119 x120 x121 x122 x123 x124 x125 x126 x127 x128 x129 x130 x131 x132 x133 x134 x135 x136 x137 x138 x139 x140 x141 x142 x143 x144 x145 x146 x147 x148 x149 x150 x151 x152 x153 x154 x155 x156 x157 x158 x159 x160 x161 x162 x163 x164 x165 x166 x167 x168 x169 x170 x171 x172 x173 x174 x175 x176 x177 x178 x179 x180 x181 x182 x183 x184 x185 x186 x187 x188 x189 x190 x191 x192 x193 x194 x195 x196 x197 x198 x199 x200 x201 x202 x203 x204 x205 x206 x207 x208 x209 x210 x211 x212 x213 x214 x215 x216 x217 x218 x219 x220 x221 x222 x223 x224 x225 x226 x227 x228 x229 x230 x231 x232 x233 x234 x235 x236 x237 x238 x239 x240 x241 x242 x243 x244 x245 x246 x247 x248 x249 x250 x251 x252 x253 x254 x255 x256 x257 x258 x259 x260 x261 : Value) (wc : World), R x0 x2 x5 x6 x7 x10 x11 x13 x14 x15 x18 → St w wc → Code.wp Tryd.prog c (bodyPost Tryd.prog Tryd.f11 (RQ w r)) { tmps := (x0 :: x1 :: x2 :: x3 :: x4 :: x5 :: x6 :: x7 :: x8 :: x9 :: x10 :: x11 :: x12 :: x13 :: x14 :: x15 :: x16 :: x17 :: x18 :: x19 :: x20 :: x21 :: x22 :: x23 :: x24 :: x25 :: x26 :: x27 :: x28 :: x29 :: x30 :: x31 :: x32 :: x33 :: x34 :: x35 :: x36 :: x37 :: x38 :: x39 :: x40 :: x41 :: x42 :: x43 :: x44 :: x45 :: x46 :: x47 :: x48 :: x49 :: x50 :: x51 :: x52 :: x53 :: x54 :: x55 :: x56 :: x57 :: x58 :: x59 :: x60 :: x61 :: x62 :: x63 :: x64 :: x65 :: x66 :: x67 :: x68 :: x69 :: x70 :: x71 :: x72 :: x73 :: x74 :: x75 :: x76 :: x77 :: x78 :: x79 :: x80 :: x81 :: x82 :: x83 :: x84 :: x85 :: x86 :: x87 :: x88 :: x89 :: x90 :: x91 :: x92 :: x93 :: x94 :: x95 :: x96 :: x97 :: x98 :: x99 :: x100 :: x101 :: x102 :: x103 :: x104 :: x105 :: x106 :: x107 :: x108 :: x109 :: x110 :: x111 :: x112 :: x113 :: x114 :: x115 :: x116 :: x117 :: x118 :: x119 :: x120 :: x121 :: x122 :: x123 :: x124 :: x125 :: x126 :: x127 :: x128 :: x129 :: x130 :: x131 :: x132 :: x133 :: x134 :: x135 :: x136 :: x137 :: x138 :: x139 :: x140 :: x141 :: x142 :: x143 :: x144 :: x145 :: x146 :: x147 :: x148 :: x149 :: x150 :: x151 :: x152 :: x153 :: x154 :: x155 :: x156 :: x157 :: x158 :: x159 :: x160 :: x161 :: x162 :: x163 :: x164 :: x165 :: x166 :: x167 :: x168 :: x169 :: x170 :: x171 :: x172 :: x173 :: x174 :: x175 :: x176 :: x177 :: x178 :: x179 :: x180 :: x181 :: x182 :: x183 :: x184 :: x185 :: x186 :: x187 :: x188 :: x189 :: x190 :: x191 :: x192 :: x193 :: x194 :: x195 :: x196 :: x197 :: x198 :: x199 :: x200 :: x201 :: x202 :: x203 :: x204 :: x205 :: x206 :: x207 :: x208 :: x209 :: x210 :: x211 :: x212 :: x213 :: x214 :: x215 :: x216 :: x217 :: x218 :: x219 :: x220 :: x221 :: x222 :: x223 :: x224 :: x225 :: x226 :: x227 :: x228 :: x229 :: x230 :: x231 :: x232 :: x233 :: x234 :: x235 :: x236 :: x237 :: x238 :: x239 :: x240 :: x241 :: x242 :: x243 :: x244 :: x245 :: x246 :: x247 :: x248 :: x249 :: x250 :: x251 :: x252 :: x253 :: x254 :: x255 :: x256 :: x257 :: x258 :: x259 :: x260 :: x261 :: []).toArray, defers := [] } wc
def Yat (n : Nat) (w : World) (r : RR) (R : Value → Value → Value → Value → Value → Value → Value → Value → Value → Value → Value →  Prop) : Prop := ∃ c, dropB n Tryd.f11.body = some c ∧ YH c w r R
end Go.Proofs.YtlgdenihddkjaaaDoor
