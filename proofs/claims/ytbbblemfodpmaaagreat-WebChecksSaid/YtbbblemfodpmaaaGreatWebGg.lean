/-DERIVED: THE SHELF's CONTRACTS AT THIS DUMP, IN PLAIN WORDS (tools/lay-plain.mjs out of 'YtbbblemfodpmaaaGreatWebShelfA.lean', which tools/lay-shelf.mjs wrote): THE SAME DECLARATIONS UNDER THE SAME NAMES: 'import', 'namespace', 'open', 'def', 'theorem' AND NOTHING ELSE: no command of the shelf's: FOR A HAND-IN. Each laying: the table of numbers ('.._ren') and one theorem, a field a fact of the dump's own or the kernel's comparison; each contract: ONE APPLICATION.-/
import Derived.Shelf.SlGeneric
import Derived.Shelf.SlSortCmp.Xorshift
import Derived.Ground.SlsfProg
import Derived.Test.YtbbblemfodpmaaaGreatProg
import Derived.Test.YtbbblemfodpmaaaGreatWebGf
import Derived.Deep.CutBlock
import Derived.Sort.LotD1
import Derived.Laws.Bits64b
set_option linter.unusedVariables false
set_option linter.unusedSimpArgs false
set_option maxHeartbeats 16000000
set_option maxRecDepth 100000
section
namespace Go.Proofs
open Go.Shelf
def Tryz.sortSide_ren : Go.Shelf.Ren:=⟨fun | 6=>186 | 15=>177 | 14=>212 | 28=>201 | 29=>202 | 20=>222 | 21=>223 | 22=>224 | 23=>225 | 24=>226 | 25=>227 | 26=>228 | 27=>229 | 46=>233 | 47=>215 | 48=>216 | 49=>234 | 50=>235 | 57=>236 | n=>n,fun | 22=>62 | 24=>59 | 25=>245 | 3=>3 | 39=>230 | 0=>0 | 53=>259 | 55=>261 | 4=>4 | 46=>253 | 45=>252 | 50=>118 | 5=>5 | 9=>9 | 66=>269 | 70=>273 | 76=>282 | 77=>159 | n=>n,fun | n=>n⟩
theorem Tryz.sortSide : Go.Proofs.SlLaysF0.n6 Tryz.prog Tryz.sortSide_ren:={
 mixed:=by kernel_rfl
 f6:=⟨Tryz.f186.name,by decide,Tryz.func186.trans (congrArg some (by kernel_rfl))⟩
 f14:=⟨Tryz.f212.name,by decide,Tryz.func212.trans (congrArg some (by kernel_rfl))⟩
 f15:=Tryz.func177.trans (congrArg some (by kernel_rfl))
 f20:=⟨Tryz.f222.name,by decide,Tryz.func222.trans (congrArg some (by kernel_rfl))⟩
 f21:=⟨Tryz.f223.name,by decide,Tryz.func223.trans (congrArg some (by kernel_rfl))⟩
 f22:=⟨Tryz.f224.name,by decide,Tryz.func224.trans (congrArg some (by kernel_rfl))⟩
 f23:=⟨Tryz.f225.name,by decide,Tryz.func225.trans (congrArg some (by kernel_rfl))⟩
 f24:=⟨Tryz.f226.name,by decide,Tryz.func226.trans (congrArg some (by kernel_rfl))⟩
 f25:=⟨Tryz.f227.name,by decide,Tryz.func227.trans (congrArg some (by kernel_rfl))⟩
 f26:=⟨Tryz.f228.name,by decide,Tryz.func228.trans (congrArg some (by kernel_rfl))⟩
 f27:=⟨Tryz.f229.name,by decide,Tryz.func229.trans (congrArg some (by kernel_rfl))⟩
 f28:=Tryz.func201.trans (congrArg some (by kernel_rfl))
 f29:=Tryz.func202.trans (congrArg some (by kernel_rfl))
 f46:=⟨Tryz.f233.name,by decide,Tryz.func233.trans (congrArg some (by kernel_rfl))⟩
 f47:=Tryz.func215.trans (congrArg some (by kernel_rfl))
 f48:=Tryz.func216.trans (congrArg some (by kernel_rfl))
 f49:=⟨Tryz.f234.name,by decide,Tryz.func234.trans (congrArg some (by kernel_rfl))⟩
 f50:=⟨Tryz.f235.name,by decide,Tryz.func235.trans (congrArg some (by kernel_rfl))⟩
 f57:=⟨Tryz.f236.name,by decide,Tryz.func236.trans (congrArg some (by kernel_rfl))⟩
 t0:=Tryz.underlying0
 a0:=Tryz.isAgg0
 z0:=Tryz.sizeOf0
 v0:=Tryz.zeroValue0
 t3:=Tryz.underlying3
 a3:=Tryz.isAgg3
 z3:=Tryz.sizeOf3
 v3:=Tryz.zeroValue3
 t4:=Tryz.underlying4
 a4:=Tryz.isAgg4
 z4:=Tryz.sizeOf4
 v4:=Tryz.zeroValue4
 t5:=Tryz.underlying5
 a5:=Tryz.isAgg5
 z5:=Tryz.sizeOf5
 v5:=Tryz.zeroValue5
 t9:=Tryz.underlying9
 a9:=Tryz.isAgg9
 z9:=Tryz.sizeOf9
 v9:=Tryz.zeroValue9
 t22:=Tryz.underlying62
 a22:=Tryz.isAgg62
 z22:=Tryz.sizeOf62
 v22:=Tryz.zeroValue62
 t25:=Tryz.underlying245
 a25:=Tryz.isAgg245
 z25:=Tryz.sizeOf245
 v25:=Tryz.zeroValue245
 t39:=Tryz.underlying230
 a39:=Tryz.isAgg230
 z39:=Tryz.sizeOf230
 v39:=Tryz.zeroValue230
 t45:=Tryz.underlying252
 a45:=Tryz.isAgg252
 z45:=Tryz.sizeOf252
 v45:=Tryz.zeroValue252
 t46:=Tryz.underlying253
 a46:=Tryz.isAgg253
 z46:=Tryz.sizeOf253
 v46:=Tryz.zeroValue253
 t50:=Tryz.underlying118
 a50:=Tryz.isAgg118
 z50:=Tryz.sizeOf118
 v50:=Tryz.zeroValue118
 t53:=Tryz.underlying259
 a53:=Tryz.isAgg259
 z53:=Tryz.sizeOf259
 v53:=Tryz.zeroValue259
 t55:=Tryz.underlying261
 a55:=Tryz.isAgg261
 z55:=Tryz.sizeOf261
 v55:=Tryz.zeroValue261
 t66:=Tryz.underlying269
 a66:=Tryz.isAgg269
 z66:=Tryz.sizeOf269
 v66:=Tryz.zeroValue269
 t70:=Tryz.underlying273
 a70:=Tryz.isAgg273
 z70:=Tryz.sizeOf273
 v70:=Tryz.zeroValue273
 t76:=Tryz.underlying282
 a76:=Tryz.isAgg282
 z76:=Tryz.sizeOf282
 v76:=Tryz.zeroValue282
 t77:=Tryz.underlying159
 a77:=Tryz.isAgg159
 z77:=Tryz.sizeOf159
 v77:=Tryz.zeroValue159 }
def Tryz.sortPane_ren : Go.Shelf.Ren:=⟨fun | 6=>138 | 15=>177 | 14=>183 | 28=>201 | 29=>202 | 20=>203 | 21=>204 | 22=>205 | 23=>206 | 24=>207 | 25=>208 | 26=>209 | 27=>210 | 46=>219 | 47=>215 | 48=>216 | 49=>220 | 50=>221 | 57=>232 | n=>n,fun | 22=>35 | 24=>82 | 25=>195 | 3=>3 | 39=>230 | 0=>0 | 53=>259 | 55=>261 | 4=>4 | 46=>253 | 45=>252 | 50=>118 | 5=>5 | 9=>9 | 66=>269 | 70=>273 | 76=>282 | 77=>159 | n=>n,fun | n=>n⟩
theorem Tryz.sortPane : Go.Proofs.SlLaysF0.n6 Tryz.prog Tryz.sortPane_ren:={
 mixed:=by kernel_rfl
 f6:=⟨Tryz.f138.name,by decide,Tryz.func138.trans (congrArg some (by kernel_rfl))⟩
 f14:=⟨Tryz.f183.name,by decide,Tryz.func183.trans (congrArg some (by kernel_rfl))⟩
 f15:=Tryz.func177.trans (congrArg some (by kernel_rfl))
 f20:=⟨Tryz.f203.name,by decide,Tryz.func203.trans (congrArg some (by kernel_rfl))⟩
 f21:=⟨Tryz.f204.name,by decide,Tryz.func204.trans (congrArg some (by kernel_rfl))⟩
 f22:=⟨Tryz.f205.name,by decide,Tryz.func205.trans (congrArg some (by kernel_rfl))⟩
 f23:=⟨Tryz.f206.name,by decide,Tryz.func206.trans (congrArg some (by kernel_rfl))⟩
 f24:=⟨Tryz.f207.name,by decide,Tryz.func207.trans (congrArg some (by kernel_rfl))⟩
 f25:=⟨Tryz.f208.name,by decide,Tryz.func208.trans (congrArg some (by kernel_rfl))⟩
 f26:=⟨Tryz.f209.name,by decide,Tryz.func209.trans (congrArg some (by kernel_rfl))⟩
 f27:=⟨Tryz.f210.name,by decide,Tryz.func210.trans (congrArg some (by kernel_rfl))⟩
 f28:=Tryz.func201.trans (congrArg some (by kernel_rfl))
 f29:=Tryz.func202.trans (congrArg some (by kernel_rfl))
 f46:=⟨Tryz.f219.name,by decide,Tryz.func219.trans (congrArg some (by kernel_rfl))⟩
 f47:=Tryz.func215.trans (congrArg some (by kernel_rfl))
 f48:=Tryz.func216.trans (congrArg some (by kernel_rfl))
 f49:=⟨Tryz.f220.name,by decide,Tryz.func220.trans (congrArg some (by kernel_rfl))⟩
 f50:=⟨Tryz.f221.name,by decide,Tryz.func221.trans (congrArg some (by kernel_rfl))⟩
 f57:=⟨Tryz.f232.name,by decide,Tryz.func232.trans (congrArg some (by kernel_rfl))⟩
 t0:=Tryz.underlying0
 a0:=Tryz.isAgg0
 z0:=Tryz.sizeOf0
 v0:=Tryz.zeroValue0
 t3:=Tryz.underlying3
 a3:=Tryz.isAgg3
 z3:=Tryz.sizeOf3
 v3:=Tryz.zeroValue3
 t4:=Tryz.underlying4
 a4:=Tryz.isAgg4
 z4:=Tryz.sizeOf4
 v4:=Tryz.zeroValue4
 t5:=Tryz.underlying5
 a5:=Tryz.isAgg5
 z5:=Tryz.sizeOf5
 v5:=Tryz.zeroValue5
 t9:=Tryz.underlying9
 a9:=Tryz.isAgg9
 z9:=Tryz.sizeOf9
 v9:=Tryz.zeroValue9
 t22:=Tryz.underlying35
 a22:=Tryz.isAgg35
 z22:=Tryz.sizeOf35
 v22:=Tryz.zeroValue35
 t25:=Tryz.underlying195
 a25:=Tryz.isAgg195
 z25:=Tryz.sizeOf195
 v25:=Tryz.zeroValue195
 t39:=Tryz.underlying230
 a39:=Tryz.isAgg230
 z39:=Tryz.sizeOf230
 v39:=Tryz.zeroValue230
 t45:=Tryz.underlying252
 a45:=Tryz.isAgg252
 z45:=Tryz.sizeOf252
 v45:=Tryz.zeroValue252
 t46:=Tryz.underlying253
 a46:=Tryz.isAgg253
 z46:=Tryz.sizeOf253
 v46:=Tryz.zeroValue253
 t50:=Tryz.underlying118
 a50:=Tryz.isAgg118
 z50:=Tryz.sizeOf118
 v50:=Tryz.zeroValue118
 t53:=Tryz.underlying259
 a53:=Tryz.isAgg259
 z53:=Tryz.sizeOf259
 v53:=Tryz.zeroValue259
 t55:=Tryz.underlying261
 a55:=Tryz.isAgg261
 z55:=Tryz.sizeOf261
 v55:=Tryz.zeroValue261
 t66:=Tryz.underlying269
 a66:=Tryz.isAgg269
 z66:=Tryz.sizeOf269
 v66:=Tryz.zeroValue269
 t70:=Tryz.underlying273
 a70:=Tryz.isAgg273
 z70:=Tryz.sizeOf273
 v70:=Tryz.zeroValue273
 t76:=Tryz.underlying282
 a76:=Tryz.isAgg282
 z76:=Tryz.sizeOf282
 v76:=Tryz.zeroValue282
 t77:=Tryz.underlying159
 a77:=Tryz.isAgg159
 z77:=Tryz.sizeOf159
 v77:=Tryz.zeroValue159 }
end Go.Proofs
end
section
namespace Go.Proofs.YtbbblemfodpmaaaGreat
open Go.RowKit
open Go.Sort
section
variable {α : Type} [Inhabited α] {en : α→Side} {w0 : World} {blk : Nat} {tail : List Value} {recv : Value} {cf : α→α→Int}
theorem next_x (rb X : Nat) (hX : X < 18446744073709551616) (w : World) (h : zAe w rb 269 #[.int .u64 X]) :
  Calls Tryz.prog 216 #[.pointer (some ⟨rb,0,none⟩)] w fun e w'=>e = .returned (.int .u64 (xorNextN X : Nat))∧zAe w' rb 269 #[.int .u64 (xorNextN X : Nat)]∧Turn rb w w':=by
 refine (AnyF.xorshift_Next { Tryz.sortSide with } rb 0 X hX w ((h.cell 0).trans rfl) (h.frozen 0)).mono ?_;rintro e w' ⟨rfl,rfl⟩;obtain ⟨h1,h2⟩:=zCZ (T := 269) [.int .u64 (xorNextN X : Nat)] 0 _ w h;refine ⟨rfl, ?_, ?_⟩
 ·exact (zAe.eqv h1 (by simp [zAx])).of_block rfl
 ·exact ⟨h2.os,h2.tape,h2.output,h2.size,h2.block⟩
theorem npow_x (n : Nat) (hn : n < 4611686018427387904) (w : World) : Calls Tryz.prog 215 #[.int .i64 n] w fun e w'=>e = .returned (.int .u64 ((1 <<< bitsLen n : Nat) : Int))∧w' = w:=
 AnyF.nextPowerOfTwo { Tryz.sortSide with } n hn w
theorem u64w {m : Nat} (h : m ≤ 4611686018427387904) : IntKind.u64.wrap (m : Int) = (m : Int):=by
 simp [IntKind.wrap,IntKind.signed,IntKind.bits];omega
theorem w64w {z : Int} (h : -4611686018427387904 ≤ z∧z ≤ 4611686018427387904) : wrap64 z = z:=by
 unfold wrap64;omega
def zDc {α : Type} [Inhabited α] (d : Array α) (a L M B0 : Nat) : Nat→UInt64 × Array α
 | 0=>(UInt64.ofNat L,d)
 | t + 1=>breakStep a L M (zDc d a L M B0 t) (B0 + t)
theorem xor_nat {r : UInt64} {X Y : Nat} (hX : r.toNat = X) (hY : xorNextN X = Y) : (xorNext r).toNat = Y:=by rw [xorNext_toNat,hX,hY]
theorem bp_end {α : Type} [Inhabited α] {d D1 : Array α} {a b L M B0 t : Nat} {r : UInt64} (h : breakPatterns d a b = (zDc d a L M B0 3).2) (ht : t = 3) (hi : zDc d a L M B0 t = (r,D1)) : breakPatterns d a b = D1:=by
 subst ht;rw [h,hi]
theorem bp_step {α : Type} [Inhabited α] {d D1 : Array α} {a L M M1 B0 t Y O O1 : Nat} {r : UInt64} (hi : zDc d a L M B0 t = (r,D1)) (hr : (xorNext r).toNat = Y) (hM : M - 1 = M1) (hO : Y &&& M1 = O) (hO1 : (if O ≥ L then O - L else O) = O1) : zDc d a L M B0 (t + 1) = (xorNext r,swp D1 (B0 + t) (a + O1)):=by
 show breakStep a L M (zDc d a L M B0 t) (B0 + t) = _
 rw [hi];unfold breakStep;simp only [hr,hM,hO,hO1]
theorem o1_lt {O O1 L M1 : Nat} (h : (if O ≥ L then O - L else O) = O1) (hO : O ≤ M1) (hM : M1 < 2 * L) : O1 < L:=by
 rw [← h];split <;> omega
theorem o1_sub {O O1 L : Nat} (h : (if O ≥ L then O - L else O) = O1) (hO : O ≥ L) (hs : O ≤ 4611686018427387904) : wrap64 ((O : Int) - (L : Int)) = (O1 : Int):=by
 rw [if_pos hO] at h;rw [w64w (by omega)];omega
theorem nat_of_u64 {L : Nat} (h : L ≤ 4611686018427387904) : (UInt64.ofNat L).toNat = L:=by simp;omega
theorem break_s (d : Array α) (a b cap : Nat) (w : World) (hS : SW en w0 blk tail d w) (hblk : blk < w0.heap.size) (hab : a < b) (hb : b ≤ d.size) (hsz : d.size ≤ 4294967296) :
  Calls Tryz.prog 224 #[.slice (some ⟨blk,0,none⟩) d.size cap, .int .i64 a, .int .i64 b,(.func (.func 187) #[recv] #[])] w fun e w'=>e = .returned (.tuple #[])∧SW en w0 blk tail (breakPatterns d a b) w':=by
 obtain ⟨n,hn⟩ : ∃ n,d.size = n:=⟨_,rfl⟩
 obtain ⟨L,hL⟩ : ∃ n,b - a = n:=⟨_,rfl⟩
 rw [hn] at hb hsz ⊢;have HN:=zz hn;have kL : IntKind.i64.wrap ((b : Int) - (a : Int)) = (L : Int):=by rw [i64w (by omega)];omega
 have hLb : a + L ≤ b:=by omega
 have HBL:=zz hL;clear hn
 by_cases h8 : 8 ≤ L
 case neg=>
  have h8' : ¬ (8 : Int) ≤ (L : Int):=by omega
  have HR : Hid (breakPatterns d a b = d):=zz (by unfold breakPatterns;simp only [hL];rw [if_neg h8]);clear hL;go_enter Tryz.func224,Tryz.ntmps224;go_wp2
  first | go_end0 | refine bodyPost_ret (results_none rfl _ _ _) rfl ?_
  exact ⟨rfl,by rw [HR.out];exact hS⟩
 have h8' : (8 : Int) ≤ (L : Int):=by omega
 clear hL;have hxb : zAe (w.alloc (.cells #[.int .u64 0] 269)) w.heap.size 269 #[.int .u64 0]:=zAe.new _ _ _;obtain ⟨M,hM⟩ : ∃ m,1 <<< bitsLen L = m:=⟨_,rfl⟩
 have HNP : Hid (∀ W,Calls Tryz.prog 215 #[.int .i64 L] W fun e w'=>e = .returned (.int .u64 (M : Int))∧w' = W):=zz fun W=>by rw [← hM];exact npow_x L (by omega) W
 go_enter Tryz.func224,Tryz.ntmps224
 go_wp2_with (first
  | ((with_reducible refine zAv 269 ?_);refine zAS hxb rfl _ _ _ rfl rfl (.int .u64 (L : Int)) rfl (by kernel_rfl) rfl (by kernel_rfl) ?_;intro w2 hx2 hT2)
  | (go_at_call 215;(with_reducible refine (HNP.out _).mono ?_);rintro e w3 ⟨rfl,rfl⟩))
 have hM1 : 1 ≤ M:=by rw [← hM,Nat.shiftLeft_eq,Nat.one_mul];exact Nat.one_le_two_pow
 have hM2 : M ≤ 2 * L:=by rw [← hM,Nat.shiftLeft_eq,Nat.one_mul];exact two_pow_bitsLen_le (by omega)
 obtain ⟨M1,hM3⟩ : ∃ m,M = m + 1:=⟨M - 1,by omega⟩
 have f1 : IntKind.u64.wrap ((M : Int) - 1) = (M1 : Int):=by
  rw [show (M : Int) - 1 = (M1 : Int) by omega];exact u64w (by omega)
 obtain ⟨B0,hB0⟩ : ∃ m,a + L / 4 * 2 = m + 1:=⟨a + L / 4 * 2 - 1,by omega⟩
 have hB1 : B0 + 3 ≤ b:=by omega
 have hB2 : (a : Int) + (L : Int) / 4 * 2 = (B0 : Int) + 1:=by omega
 have HBP : Hid (breakPatterns d a b = (zDc d a L M B0 3).2):=zz (by
  unfold breakPatterns;simp only [HBL.out];rw [if_pos h8];simp only [zDc,hM,Nat.add_zero];rw [show a + L / 4 * 2 - 1 = B0 by omega])
 have hx3 : zAe w3 w.heap.size 269 #[.int .u64 ((UInt64.ofNat L).toNat : Nat)]:=hx2.eqv (cs':=#[.int .u64 ((UInt64.ofNat L).toNat : Nat)]) (by
  have e : (UInt64.ofNat L).toNat = L:=nat_of_u64 (by omega);rw [e];simp [zAx,Value.cells])
 have hne : blk ≠ w.heap.size:=by have:=hS.out.size;omega
 have hS2 : SW en w0 blk tail d w3:=(hS.lays ((Lays.refl w).alloc (.cells #[.int .u64 0] 269))).turn hT2 hS.out.size hne;have HS2:=zz hS2;have hwo:=hS.out.size;have hM4 : M1 < M:=by omega
 have hM5 : M ≤ M1 + 1:=by omega
 clear hM hM3 hS2 hx2 hxb hT2 hS HNP HBL
 go_loopw [11,12] (fun u _ wr=>∃ (t : Nat) (r : UInt64) (d1 : Array α),t ≤ 3∧u = .int .i64 ((B0 + t : Nat) : Int)∧Hid (d1.size = n)∧Hid (zDc d a L M B0 t = (r,d1))∧Hid (zAe wr w.heap.size 269 #[.int .u64 (r.toNat : Nat)])∧Hid (SW en w0 blk tail d1 wr)) (fun u _ _=>B0 + 3 - (intOf u).toNat)
 case atStart=>exact ⟨0,UInt64.ofNat L,d,by omega,by simp;omega,HN,zz rfl,zz hx3,HS2⟩
 case round=>
  obtain ⟨t,r,D1,ht,rfl,HN1,HI,HB,HS⟩:=hrel
  by_cases ht3 : t < 3
  case neg=>
   have hh : ¬ (B0 : Int) + (t : Int) ≤ (a : Int) + (L : Int) / 4 * 2 + 1:=by omega
   have HR : Hid (breakPatterns d a b = D1):=zz (bp_end HBP.out (by omega) HI.out);clear hB2;go_wp2
   first | go_end0 | refine bodyPost_ret (results_none rfl _ _ _) rfl ?_
   exact ⟨rfl,by rw [HR.out];exact HS.out⟩
  have hh : (B0 : Int) + (t : Int) ≤ (a : Int) + (L : Int) / 4 * 2 + 1:=by omega
  have hge : n ≤ D1.size:=by have:=HN1.out;omega
  obtain ⟨X,hX⟩ : ∃ X,r.toNat = X:=⟨_,rfl⟩
  have hXl : X < 18446744073709551616:=by rw [← hX];exact r.toNat_lt
  have hXN:=xorNextN_lt X hXl;obtain ⟨Y,hY⟩ : ∃ Y,xorNextN X = Y:=⟨_,rfl⟩
  have hrn : (xorNext r).toNat = Y:=xor_nat hX hY;have HNX : Hid (∀ W,zAe W w.heap.size 269 #[.int .u64 (r.toNat : Nat)]→Calls Tryz.prog 216 #[.pointer (some ⟨w.heap.size,0,none⟩)] W fun e w'=>e = .returned (.int .u64 (Y : Int))∧zAe w' w.heap.size 269 #[.int .u64 ((xorNext r).toNat : Nat)]∧Turn w.heap.size W w'):=zz fun W hW=>by
   rw [hX] at hW;rw [hrn,← hY];exact next_x w.heap.size X hXl W hW
  rw [hY] at hXN;obtain ⟨O,hO⟩ : ∃ O,Y &&& M1 = O:=⟨_,rfl⟩
  have hOl : O ≤ M1:=by rw [← hO];exact Nat.and_le_right
  have f2 : bits BinOp.and IntKind.u64 (Y : Int) (M1 : Int) = (O : Int):=by rw [bits_and_u64_nat _ _ hXN (by omega),hO]
  have f3 : wrap64 (O : Int) = (O : Int):=w64w (by omega);obtain ⟨O1,hO1⟩ : ∃ o,(if O ≥ L then O - L else O) = o:=⟨_,rfl⟩
  have F1:=zz f1;have F2:=zz f2;have F3:=zz f3;have hO1l : O1 < L:=o1_lt hO1 hOl (by omega);have HST : Hid (zDc d a L M B0 (t + 1) = (xorNext r,swp D1 (B0 + t) (a + O1))):=zz (bp_step HI.out hrn (by omega) hO hO1);have f4 : IntKind.i64.wrap ((a : Int) + (O1 : Int)) = (a : Int) + (O1 : Int):=i64w (by omega);have hpn : B0 + t < n:=by omega
  have hqn : a + O1 < n:=by omega
  have hOl5 : O ≤ 4611686018427387904:=Nat.le_trans hOl (by omega);clear hX hY hrn hO hB2 hXl hXN hM1 hM2 hM4 hM5 hOl f1 f2 f3
  go_upto_if 45 with (go_at_call 216;(with_reducible refine (HNX.out _ HB.out).mono ?_);rintro e w5 ⟨rfl,hb5,ht5⟩;have hS5:=HS.out.turn ht5 hwo hne)
  simp only [F1.out,F2.out,F3.out]
  by_cases hOL : O ≥ L
  ·have hOL' : (L : Int) ≤ (O : Int):=by omega
   have F6 : Hid ((O : Int) - (L : Int) = (O1 : Int)):=zz (by rw [if_pos hOL] at hO1;omega);have F5 : Hid (wrap64 ((O : Int) - (L : Int)) = (O1 : Int)):=zz (o1_sub hO1 hOL hOl5);clear hO1;go_wp2
   first | simp only [F5.out] | simp only [F6.out]
   have hSd:=hS5.drew;have hbd:=hb5.drew;refine rgM 17 [(0,none),(1,none),(2,none),(3,none),(4,none),(5,none),(6,none),(7,none),(8,none),(9,none),(10,none),(12,none),(13,none),(14,none),(11,some true),(15,some true),(16,none),(17,some false),(18,none),(19,some false)] ?_;iterate 10 (refine wC rfl ?_;simp only [pT])
   refine zAq (v:=.pointer (some ⟨blk,(a + O1) * 2,none⟩)) rfl rfl (fun W=>zAj (n:=n) (i:=a + O1) rfl rfl (by first | omega | (simp only [*];try omega)) (by omega)) ?_;simp only [pT];iterate 2 (refine wC rfl ?_;simp only [pT])
   refine zAq (v:=.pointer (some ⟨blk,(B0 + t) * 2,none⟩)) rfl rfl (fun W=>zAj (n:=n) (i:=B0 + t) rfl rfl (by first | omega | (simp only [*];try omega)) (by omega)) ?_;simp only [pT];refine zAN (v:=.agg (zAa (en (D1[a + O1]!)))) rfl rfl (fun W hW=>zAc (zAa (en (D1[a + O1]!))) (hSd.row.belowAll hW) rfl (zAo (bang (by omega))) zuA) ?_;simp only [pT];refine zAN (v:=.agg (zAa (en (D1[B0 + t]!)))) rfl rfl (fun W hW=>zAc (zAa (en (D1[B0 + t]!))) (hSd.row.belowAll hW) rfl (zAo (bang (by omega))) zuA) ?_;simp only [pT];refine zAq (v:=.pointer (some ⟨blk,(B0 + t) * 2,none⟩)) rfl rfl (fun W=>zAj (n:=n) (i:=B0 + t) rfl rfl (by first | omega | (simp only [*];try omega)) (by omega)) ?_;simp only [pT];refine zBk rfl rfl (fun K hK=>?_);refine zAr hSd.row 59 _ _ rfl rfl (.agg (zAa (en (D1[a + O1]!)))) rfl (by kernel_rfl) (zA2 (by omega)) (zAn _) ?_;intro w2 b2 t2;have hSm:=hSd.set (i:=B0 + t) (x:=D1[a + O1]!) (by omega) b2 t2;replace hbd:=hbd.turn t2 (Ne.symm hne);clear b2 t2;refine hK _ _ ?_;clear hK K
   try simp only [pT]
   refine zAq (v:=.pointer (some ⟨blk,(a + O1) * 2,none⟩)) rfl rfl (fun W=>zAj (n:=n) (i:=a + O1) rfl rfl (by first | omega | (simp only [*];try omega)) (by omega)) ?_;simp only [pT];refine zBy rfl rfl (fun K hK=>?_);refine zAr hSm.row 59 _ _ rfl rfl (.agg (zAa (en (D1[B0 + t]!)))) rfl (by kernel_rfl) (zA2 (by simp only [Array.size_setIfInBounds];omega)) (zAn _) ?_;intro w2 b2 t2;have hS3 : SW en w0 blk tail (swp (D1) (B0 + t) (a + O1)) w2:=hSm.set (i:=a + O1) (x:=D1[B0 + t]!) (by simp only [Array.size_setIfInBounds];omega) b2 t2;replace hbd:=hbd.turn t2 (Ne.symm hne);clear b2 t2;refine hK _ _ ?_;clear hK K
   try simp only [pT]
   simp only [wpC];go_wp2;go_roundw
   case rel=>exact ⟨t + 1,xorNext r,swp D1 (B0 + t) (a + O1),by omega,by first | rfl | go_num | (simp;omega),zz (by rw [zBr];exact HN1.out),HST,zz hbd,zz hS3⟩
   case measure=>(simp [intOf];try omega)
  ·have hOL' : ¬ (L : Int) ≤ (O : Int):=by omega
   obtain rfl : O1 = O:=by rw [if_neg hOL] at hO1;exact hO1.symm
   clear hO1;go_wp2;have hSd:=hS5.drew;have hbd:=hb5.drew;refine rgM 17 [(0,none),(1,none),(2,none),(3,none),(4,none),(5,none),(6,none),(7,none),(8,none),(9,none),(10,none),(12,none),(13,none),(14,none),(11,some true),(15,some true),(16,none),(17,some false),(18,none),(19,some false)] ?_;iterate 10 (refine wC rfl ?_;simp only [pT])
   refine zAq (v:=.pointer (some ⟨blk,(a + O1) * 2,none⟩)) rfl rfl (fun W=>zAj (n:=n) (i:=a + O1) rfl rfl (by first | omega | (simp only [*];try omega)) (by omega)) ?_;simp only [pT];iterate 2 (refine wC rfl ?_;simp only [pT])
   refine zAq (v:=.pointer (some ⟨blk,(B0 + t) * 2,none⟩)) rfl rfl (fun W=>zAj (n:=n) (i:=B0 + t) rfl rfl (by first | omega | (simp only [*];try omega)) (by omega)) ?_;simp only [pT];refine zAN (v:=.agg (zAa (en (D1[a + O1]!)))) rfl rfl (fun W hW=>zAc (zAa (en (D1[a + O1]!))) (hSd.row.belowAll hW) rfl (zAo (bang (by omega))) zuA) ?_;simp only [pT];refine zAN (v:=.agg (zAa (en (D1[B0 + t]!)))) rfl rfl (fun W hW=>zAc (zAa (en (D1[B0 + t]!))) (hSd.row.belowAll hW) rfl (zAo (bang (by omega))) zuA) ?_;simp only [pT];refine zAq (v:=.pointer (some ⟨blk,(B0 + t) * 2,none⟩)) rfl rfl (fun W=>zAj (n:=n) (i:=B0 + t) rfl rfl (by first | omega | (simp only [*];try omega)) (by omega)) ?_;simp only [pT];refine zBk rfl rfl (fun K hK=>?_);refine zAr hSd.row 59 _ _ rfl rfl (.agg (zAa (en (D1[a + O1]!)))) rfl (by kernel_rfl) (zA2 (by omega)) (zAn _) ?_;intro w2 b2 t2;have hSm:=hSd.set (i:=B0 + t) (x:=D1[a + O1]!) (by omega) b2 t2;replace hbd:=hbd.turn t2 (Ne.symm hne);clear b2 t2;refine hK _ _ ?_;clear hK K
   try simp only [pT]
   refine zAq (v:=.pointer (some ⟨blk,(a + O1) * 2,none⟩)) rfl rfl (fun W=>zAj (n:=n) (i:=a + O1) rfl rfl (by first | omega | (simp only [*];try omega)) (by omega)) ?_;simp only [pT];refine zBy rfl rfl (fun K hK=>?_);refine zAr hSm.row 59 _ _ rfl rfl (.agg (zAa (en (D1[B0 + t]!)))) rfl (by kernel_rfl) (zA2 (by simp only [Array.size_setIfInBounds];omega)) (zAn _) ?_;intro w2 b2 t2;have hS3 : SW en w0 blk tail (swp (D1) (B0 + t) (a + O1)) w2:=hSm.set (i:=a + O1) (x:=D1[B0 + t]!) (by simp only [Array.size_setIfInBounds];omega) b2 t2;replace hbd:=hbd.turn t2 (Ne.symm hne);clear b2 t2;refine hK _ _ ?_;clear hK K
   try simp only [pT]
   simp only [wpC];go_wp2;go_roundw
   case rel=>exact ⟨t + 1,xorNext r,swp D1 (B0 + t) (a + O1),by omega,by first | rfl | go_num | (simp;omega),zz (by rw [zBr];exact HN1.out),HST,zz hbd,zz hS3⟩
   case measure=>(simp [intOf];try omega)
end
end Go.Proofs.YtbbblemfodpmaaaGreat
end
