/- Parts Base, Mem, Sx, Sxd, Sxe, Bits, Div64, Div64b, Radix, Nat, NatB, Mulnat, MulnatB, MulnatC, MulnatD, Divnat, DivnatB, Shr, Long, LongB, DivC, Gcd, Int, Same, Sxz, Sxl, joined. -/
import Derived.Deep.Slices
import Derived.WalkKit
import Derived.WalkSpells
import Derived.Deep.Draws
import Derived.Lib.Hide
import Derived.Laws.CopyOwn
import Derived.Deep.QuietTactic
import Derived.BigQuiet
import Derived.Deep.RegionHeld3
import Derived.Deep.RegionWith
import Derived.Deep.DeepCutAuto
import Derived.Deep.DeepMust
import Derived.Deep.DeepFit
import Derived.Handy
import Derived.OwnWalk
import Derived.Maps.AppendAt
import Derived.Test.YtkkabncicmhjfaaGreatDoorShelf
import Derived.Shelf.Spec.BitsCarry
import Derived.Lib.ItoaNum
import Derived.Deep.CutBlock
import Derived.Test.YtkkabncicmhjfaaGreatDoorProg
import Derived.WalkMore
import Derived.IntWalk
import Derived.KernelRfl

open Go.Act renaming put → qC
open Go renaming Addr → a7, BinOp → jU, Calls → aQ, Edge → fL, Ending → eF, Exit → dX, IntKind → j7, Next → gS, Oper → bE, Operand → cR, Program → cO, ResultVar → wJ, TypeId → aS, Value → aF, World → a6, bodyPost_ret → kE, info_parts → qY, run_underlying → nL, wpList_plain → CI
open Go.Addr renaming add → pI
open Array renaming getD_eq_getD_getElem? → sU, getElem?_eq_some_iff → qB, getElem?_setIfInBounds_ne → HA, replicate → uN
open Go.RowKit.Below renaming heap_setCell → RA
open BitVec renaming ofInt → rC
open Bool renaming and_eq_true → fB, false_eq_true → H9, not_eq_true' → CW, or_eq_true → pH
open Go.Builtin renaming append_ → pG, firstCells → R9, lenOf → zB
open Classical renaming choose → zA, choose_spec → H8
open Go.Code renaming wp_mono → H7
open Go.Deferred renaming ofValue → R8
open Go.Exit renaming inBlock → uM
open Go.Instr renaming alloc → CV, loadAt → CU, makeSlice → sS, storeAt → CT
open Int renaming emod_lt_of_pos → lU, emod_nonneg → kS, natCast_mul → oH, tdiv_eq_ediv_of_nonneg → yZ, toNat_natCast → jB
open Go.IntKind renaming bits → wT, signed → wS, wrap → yY
open List renaming all_eq_true → gK, any_eq_true → CS, cons_append → wR, contains_iff_mem → lL, countP_cons → CR, drop_eq_getElem_cons → pF, drop_zero → iN, eq_nil_iff_forall_not_mem → CQ, eq_nil_of_length_eq_zero → uL, filter_append → R7, getD_eq_getElem?_getD → bL, getElem?_drop → nO, getElem?_eq_getElem → cT, getElem?_eq_none → jT, getElem?_eq_some_iff → gU, getElem?_map → jM, getElem?_take → lK, getElem_mem → oG, getElem_of_mem → wQ, getLast_eq_getElem → R6, length_cons → fO, length_drop → iK, length_eq_zero_iff → uK, length_take → eB, map_cons → jS, map_drop → wP, map_nil → kR, map_take → m6, map_toArray → pE, mem_append → m5, mem_cons → qA, mem_of_mem_drop → q9, mem_of_mem_take → sR, mem_or_eq_of_mem_set → R5, mem_range → j5, mem_replicate → H6, mem_singleton → rB, range → eI, replicate → dF, replicate_succ → CP, size_toArray → CO, take_append_drop → uJ, take_succ_cons → CN
open Nat renaming add_assoc → k8, add_lt_add_iff_right → R0, add_mul → eE, add_mul_div_left → CM, add_mul_mod_self_left → CL, add_right_cancel_iff → QZ, add_sub_cancel → oF, add_zero → fN, beq → q8, div_add_mod → pD, div_eq_of_lt → jL, div_le_self → gN, div_lt_iff_lt_mul → wN, div_lt_of_lt_mul → yX, div_lt_self → m0, eq_of_beq_eq_true → sQ, eq_zero_or_pos → lT, le_of_not_lt → rA, le_refl → aU, le_trans → a8, lt_mul_div_succ → sP, lt_of_le_of_lt → lS, lt_of_lt_of_le → dA, lt_of_not_le → pC, lt_or_ge → kQ, min_eq_left → iJ, mod_add_div → kF, mod_eq_of_lt → iW, mod_lt → g7, mul_add → dE, mul_add_div → r9, mul_add_mod → yW, mul_assoc → cU, mul_comm → dH, mul_div_mul_right → H5, mul_le_mul → kP, mul_le_mul_left → gT, mul_le_mul_right → fC, mul_lt_mul'' → yV, mul_lt_mul_of_pos_right → uI, mul_mod_mul_right → CK, mul_one → eH, mul_pos → jZ, mul_right_comm → uH, mul_succ → sO, mul_zero → iV, or_lt_two_pow → sN, pow_add → eS, pow_le_pow_right → fZ, pow_lt_pow_iff_right → CJ, pow_pos → iI, pow_succ → dS, strongRecOn → uG, sub_add_cancel → lJ, succ_le_of_lt → q7, succ_mul → pB, two_pow_pos → oE, zero_add → eR, zero_le → bX, zero_mul → wL
open Ne renaming symm → mP
open Go.Next renaming value → iE
open Go.Op renaming intArith → GZ, intDiv → yU
open Go.Oper renaming upon → nN, wp → pA
open Option renaming getD_some → nM, map_some → sM
open Option.some renaming inj → kO, injEq → f7
open Or renaming inl → cJ, inr → cN
open Go.Region renaming binds → kN, ready → uF, wanted → wK
open Go.Result renaming andThen_ok → fK
open Go.Sem renaming run_bind → cV, run_pure → iH
open Go.Proofs.Tryz renaming prog → aM
open Go.Value renaming int → eL, pointer → yT, slice → qZ
open Go.World.grownBy renaming refl → GY
open Go.World renaming setCell → wH
namespace Go.Proofs.YtkkabncicmhjfaaGreatDoor
set_option maxHeartbeats 8000000
set_option maxRecDepth 20000
abbrev i5(g:Nat)(o:Nat):Value:=.pointer (some ⟨g,o,none⟩)
abbrev no(k:Int):Value:=.int .i64 k
abbrev t9(k:Int):Value:=.int .u64 k
abbrev up(A:Option Addr)(n c:Nat):Value:=.slice A n c
abbrev we:Value:=.bool true
abbrev wk:Value:=.bool false
theorem xl:True:=trivial
theorem J.{z}{α:Sort z}{a:α}:a=a:=rfl
theorem i9{P:Prop}(h:P:=by omega):P:=h
theorem yd{P:Prop}(h:P:=by decide):P:=h
theorem ye{P:Prop}(h:P:=by intro _;kernel_rfl):P:=h
theorem ym{P:Prop}(h:P:=by simp):P:=h
abbrev O(s:Bool)(A:Option Addr)(n c:Nat):Value:=.agg #[.bool s,.slice A n c]
abbrev a9(s:Bool)(A:Option Addr)(n c:Nat)(t:Bool)(B:Option Addr)(m d:Nat):Value:=.agg #[.bool s,.slice A n c,.bool t,.slice B m d]
abbrev a5(s:Bool)(A:Option Addr)(n c:Nat):List Value:=[.bool s,.slice A n c]
variable {A B S dp sp:Option a7}{D K L N U0 V Y b base base' bytes c cap cap' cc d g g' hi i id j k lo2 m n n' off q r r0 u u0 u1 u2 un un0 un1 un10 v0 v1 x y yn0 yn1 yy:Nat}{P:cO}{T T' e t' t'' ty:aS}{a:Act}{af after:Array fL}{args cs us vs:List aF}{ds fl js l l1 l2 ql st xs ys zs:List Nat}{dss:List (List Nat)}{dst:Option Tmp}{er z:Int}{f:FuncId}{fn:Func}{gd guard:Option (Nat×Bool)}{hi' lo':Option cR}{high low:Option aF}{l' tmps:Array aF}{listed:Array Bool}{lk:List (Nat × Nat × Nat)}{o:bE}{ol rest:List bE}{op:jU}{ops:Array bE}{p:a7}{ps:List (Nat×Nat)}{rl:List wJ}{s s':Bool}{ts:Array aS}{v vx vy:aF}{w w' w0 w1:a6}
section
def WB:Nat:=18446744073709551616
theorem iM:0<WB:=by decide
theorem dJ:WB=18446744073709551616:=rfl
theorem QL:2≤WB:=by decide
def nv:List Nat→Nat
 | []=>0
 | x::r=>x+WB*nv r
def Wf (xs:List Nat):Prop:=∀x∈xs,x<WB
theorem rQ (x:Nat)(r:List Nat):nv (x::r)=x+WB*nv r:=rfl
theorem EP (xs ys:List Nat):nv (xs++ys)=nv xs+WB^xs.length*nv ys:=by
 induction xs with
 | nil=>simp [nv]
 | cons x r ih=>
  simp only [wR,nv,ih,fO,dS]
  rw [dE,←cU,dH WB (WB^r.length),k8]
theorem kH (h:Wf xs):nv xs<WB^xs.length:=by
 induction xs with
 | nil=>simp [nv]
 | cons x r ih=>
  have hx:x<WB:=h x ym
  have hr:=ih (fun y hy=>h y (by simp [hy]))
  simp only [nv,fO,dS]
  have:WB*nv r+WB≤WB*WB^r.length:=by
   have:=gT WB (q7 hr)
   rw [sO] at this;exact this
  rw [dH (WB^r.length)]
  omega
theorem AV (n:Nat):nv (dF n 0)=0:=by
 induction n with
 | zero=>rfl
 | succ n ih=>simp [CP,nv,ih]
theorem M0 (xs:List Nat)(x:Nat):nv (xs++ [x])=nv xs+WB^xs.length*x:=by
 rw [EP];simp [nv]
def rD:Nat→Nat→List Nat
 | 0,_=> []
 | f+1,n=>if n=0 then [] else n%WB::rD f (n/WB)
def wd (n:Nat):List Nat:=rD n n
theorem IJ (f:Nat):∀(g n:Nat),n≤f→n≤g→rD f n=rD g n:=by
 induction f with
 | zero=>
  intro g n h _
  have:n=0:=by omega
  subst this
  cases g <;> simp [rD]
 | succ f ih=>
  intro g n h hg
  by_cases h0:n=0
  ·subst h0;cases g <;> simp [rD]
  ·cases g with
   | zero=>omega
   | succ g=>
    have hlt:n/WB<n:=m0 i9 yd
    simp only [rD,h0,if_false]
    rw [ih g (n/WB) i9 i9]
theorem pM:wd 0= []:=rfl
theorem sV (h:n≠0):wd n=n%WB::wd (n/WB):=by
 have f:n/WB<n:=m0 i9 yd;unfold wd
 conv=>lhs;rw [IJ n (n+1) n (aU _) i9]
 simp only [rD,h,if_false];rw [IJ n (n/WB) (n/WB) i9 (aU _)]
theorem II {p:Nat→Prop}(h0:p 0)(hs:∀n,n≠0→p (n/WB)→p n)(n:Nat):p n:=by
 induction n using uG with
 | ind n ih=>
  by_cases h:n=0
  ·subst h;exact h0
  ·exact hs n h (ih _ (m0 i9 yd))
theorem dZ (n:Nat):nv (wd n)=n:=by
 induction n using II with
 | h0=>rfl
 | hs n h ih=>rw [sV h,rQ,ih];exact kF n WB
theorem qX (n:Nat):Wf (wd n):=by
 induction n using II with
 | h0=>intro x hx;cases hx
 | hs n h ih=>
  rw [sV h]
  intro x hx
  cases qA.1 hx with
  | inl e=>subst e;exact g7 _ iM
  | inr e=>exact ih x e
theorem SR {a:Nat}(h:wd a=wd b):a=b:=by rw [←dZ a,h,dZ]
theorem SS:wd n= []↔n=0:=by
 constructor
 ·intro h;rw [←dZ n,h];rfl
 rintro rfl;rfl
theorem oA:(wd n).length=0↔n=0:=by
 rw [uK];exact SS
theorem IF:∀{xs:List Nat},Wf xs→(∀h:xs≠ [],xs.getLast h≠0)→wd (nv xs)=xs
 | [],_,_=>rfl
 | [x],hw,ht=>by
  have hx:x<WB:=hw x ym
  have h0:x≠0:=ht ym
  simp only [nv,iV,fN]
  rw [sV h0,iW hx,jL hx,pM]
 | x::y::r,hw,ht=>by
  have hx:x<WB:=hw x ym
  have ih:=IF (xs:=y::r) (fun z o=>hw z (by simp [o])) (fun h=>by have:=ht ym;simpa [List.getLast_cons] using this)
  have f:nv (y::r)≠0:=by
   intro e
   rw [e,pM] at ih
   cases ih
  have hn:nv (x::y::r)≠0:=by
   rw [rQ]
   have:0<WB*nv (y::r):=jZ iM i9
   omega
  rw [sV hn,rQ,CL,iW hx,CM _ _ iM,jL hx,eR,ih]
theorem SQ (hw:Wf xs)(ht:xs.length=0∨xs.getD (xs.length-1) 0≠0):wd (nv xs)=xs:=by
 refine IF hw (fun h=>?_);have hl:xs.length≠0:=by simpa using h
 rcases ht with h' | h'
 ·exact absurd h' hl
 rw [R6];have:xs.length-1<xs.length:=by omega
 rwa [bL,cT this,nM] at h'
theorem uA (h:Wf xs)(k:Nat):Wf (xs.take k):=fun x hx=>h x (sR hx)
theorem GN (h:Wf xs)(k:Nat):Wf (xs.drop k):=fun x hx=>h x (q9 hx)
theorem yL (h:Wf xs)(k:Wf ys):Wf (xs++ys):=fun x hx=>by
 rcases m5.1 hx with e | e
 ·exact h x e
 ·exact k x e
theorem uB (h:Wf xs)(i:Nat):xs.getD i 0<WB:=by
 by_cases hi:i<xs.length
 ·rw [bL,cT hi];exact h _ (oG hi)
 rw [bL,jT i9];exact iM
theorem QK:Wf []:=fun x hx=>by cases hx
theorem oZ (n:Nat):Wf (dF n 0):=fun x hx=>by rw [(H6.1 hx).2];exact iM
theorem GM (h:x<WB):Wf [x]:=fun y f=>by rw [rB.1 f];exact h
theorem j0 (h:Wf xs)(i:Nat)(hx:x<WB):Wf (xs.set i x):=fun y f=>by
 rcases R5 f with e | e
 ·exact h y e
 ·rw [e];exact hx
theorem x7 {α:Type}(xs:List α)(k:Nat)(h:k<xs.length)(d:α):xs.take (k+1)=xs.take k++ [xs.getD k d]:=by
 rw [List.take_succ_eq_append_getElem h,bL,cT h];rfl
theorem gA (xs:List Nat)(k:Nat)(h:k<xs.length):nv (xs.take (k+1))=nv (xs.take k)+WB^k*xs.getD k 0:=by
 rw [x7 xs k h 0,M0,eB,iJ i9]
theorem qL (xs:List Nat)(k:Nat)(h:k≤xs.length):nv xs=nv (xs.take k)+WB^k*nv (xs.drop k):=by
 have:=EP (xs.take k) (xs.drop k);rw [uJ,eB,iJ h] at this;exact this
theorem tG (xs:List Nat)(k:Nat)(h:k<xs.length)(h0:xs.getD k 0=0):nv (xs.take (k+1))=nv (xs.take k):=by
 rw [gA xs k h,h0];simp
theorem nX (h:Wf xs)(k:Nat):nv (xs.take k)<WB^k:=by
 have h1:=kH (uA h k);have h2:WB^(xs.take k).length≤WB^k:=fZ iM (by rw [eB];omega);omega
theorem wW (hw:Wf xs)(hk:k≤xs.length)(hv:nv (xs.take k)=nv xs)(ht:k=0∨xs.getD (k-1) 0≠0):wd (nv xs)=xs.take k:=by
 have hl:(xs.take k).length=k:=by rw [eB];omega
 rw [←hv];refine SQ (uA hw k) ?_;rw [hl];rcases ht with h | h
 ·exact cJ h
 by_cases h0:k=0
 ·exact cJ h0
 refine cN ?_;rw [bL,lK,if_pos i9,←bL];exact h
theorem kK (h : n < WB ^ k): (wd n).length ≤ k := by
 induction k generalizing n with
 | zero => have : n = 0 := by simp at h; omega
           subst this; simp [pM]
 | succ k ih =>
   by_cases h0 : n = 0
   · subst h0; simp [pM]
   · rw [sV h0, fO]
     have : n / WB < WB ^ k := by rw [wN iM]; rwa [← dS]
     have := ih this
     omega
theorem nZ (n:Nat):n<WB^(wd n).length:=by
 have:=kH (qX n);rwa [dZ] at this
theorem LG (h:n≠0):WB^((wd n).length-1)≤n:=by
 refine rA (fun f=>?_);have h1:=kK f;have h2:(wd n).length≠0:=fun e=>h (oA.1 e);omega
theorem iT (h:Wf xs):(wd (nv xs)).length≤xs.length:=kK (kH h)
theorem iP {a:Nat}(h:a≤b):(wd a).length≤(wd b).length:=kK (lS h (nZ b))
theorem xW (a b:Nat):(wd (a+b)).length≤max (wd a).length (wd b).length+1:=by
 refine kK ?_;have f:=nZ a;have hb:=nZ b;have h1:WB^(wd a).length≤WB^max (wd a).length (wd b).length:=fZ iM (Nat.le_max_left _ _);have h2:WB^(wd b).length≤WB^max (wd a).length (wd b).length:=fZ iM (Nat.le_max_right _ _);rw [dS];have h:WB^max (wd a).length (wd b).length*2≤WB^max (wd a).length (wd b).length*WB:=gT _ QL;omega
theorem xV (a b:Nat):(wd (a*b)).length≤(wd a).length+(wd b).length:=by
 refine kK ?_;rw [eS];by_cases f:a=0
 ·subst f;simp only [wL];exact jZ (iI iM) (iI iM)
 exact yV (nZ a) (nZ b)
theorem zJ (h:x<WB)(h0:x≠0):wd x= [x]:=by
 rw [sV h0,iW h,jL h,pM]
theorem qD:∀{xs:List Nat}{m:Nat},Wf xs→m=(wd (nv xs)).length→wd (nv xs)=xs.take m
 | [],m,_,h=>by simp [nv,pM]
 | x::r,m,hw,h=>by
  have hx:x<WB:=hw x ym
  by_cases h0:nv (x::r)=0
  ·rw [h0,pM] at h⊢
   subst h;rfl
  ·have o:nv (x::r)/WB=nv r:=by rw [rQ,CM _ _ iM,jL hx,eR]
   have hm:nv (x::r)%WB=x:=by rw [rQ,CL,iW hx]
   rw [sV h0,o,hm] at h⊢
   obtain⟨k,rfl⟩:∃k,m=k+1:=⟨m-1,by rw [h,fO];rfl⟩
   rw [fO] at h
   rw [CN,←qD (fun y f=>hw y (by simp [f])) i9]
def fA (a b:Nat):Int:=if a<b then-1 else if a=b then 0 else 1
theorem C3 {a:Nat}(h:a<b):fA a b= -1:=by simp [fA,h]
theorem PS (a:Nat):fA a a=0:=by simp [fA]
theorem C4 {a:Nat}(h:b<a):fA a b=1:=by
 unfold fA;rw [if_neg i9,if_neg i9]
theorem PT (a b:Nat): -1≤fA a b∧fA a b≤1:=by
 unfold fA;split
 ·omega
 split <;> omega
theorem nH {a:Nat}:fA a b<0↔a<b:=by
 unfold fA;split
 ·simp_all
 split <;> simp_all
theorem G3 {a:Nat}:0<fA a b↔b<a:=by
 unfold fA;split
 ·simp_all;omega
 split <;> simp_all;omega
theorem MJ {a:Nat}(h:(wd a).length<(wd b).length):a<b:=by
 refine pC (fun f=>?_);have:=iP f;omega
theorem LX (hx:Wf xs)(hkx:k<xs.length)(hky:k<ys.length)(h:xs.getD k 0<ys.getD k 0):nv (xs.take (k+1))<nv (ys.take (k+1)):=by
 rw [gA xs k hkx,gA ys k hky];have h1:=nX hx k
 have h2:WB^k*xs.getD k 0+WB^k≤WB^k*ys.getD k 0:=by
  have:=gT (WB^k) (q7 h)
  rwa [sO] at this
 omega
theorem a2Q (hkx:k<xs.length)(hky:k<ys.length)(h:xs.getD k 0=ys.getD k 0):fA (nv (xs.take (k+1))) (nv (ys.take (k+1)))=fA (nv (xs.take k)) (nv (ys.take k)):=by
 rw [gA xs k hkx,gA ys k hky,h];unfold fA;simp only [R0,QZ]
theorem rP (hw:Wf xs)(h:m=(wd (nv xs)).length):nv (xs.take m)=nv xs:=by
 rw [←qD hw h,dZ]
theorem xM (x:Nat):nv [x]=x:=by simp [nv]
end
section
open Go.RowKit
abbrev bF (x:Nat):aF:= t9 (x:Int)
theorem WG {k:j7}{a b:Int}(h:a=b):Ending.returned (.int k a)= .returned (.int k b):=by rw [h]
theorem gW {k:j7}{a b:Int}(h:a=b:=by omega):eL k a=eL k b:=by rw [h]
theorem vY (a:a7)(n:Nat):(a.add n).block=a.block:=by unfold pI;split <;> rfl
theorem oY (a:a7)(i j:Nat):(a.add i).add j=a.add (i+j):=by
 unfold pI;by_cases hi:i=0 <;> by_cases f:j=0 <;> simp [hi,f,k8]
theorem jI (g o i:Nat):(⟨g,o,none⟩:a7).add i=⟨g,o+i,none⟩:=by
 unfold pI;split <;> simp_all
structure Ext (w w':a6):Prop where
 below:Below w.heap.size w w'
theorem Ext.refl (w:a6):Ext w w:=⟨Below.refl _ _⟩
theorem Ext.trans {a b c:a6}(h:Ext a b)(k:Ext b c):Ext a c:=⟨h.below.trans (k.below.mono h.below.size)⟩
theorem Ext.t {a b c:a6}(h : Ext a b)(k : Ext b c): Ext a c := h.trans k
theorem bN {a:a6}: Ext a a := Ext.refl a
theorem Ext.size {a b:a6}(h:Ext a b):a.heap.size≤b.heap.size:=h.below.size
theorem Ext.alloc {a:a6}(h:Ext a w)(o:Obj):Ext a (w.alloc o):=⟨h.below.alloc h.below.size o⟩
theorem Ext.drew {a:a6}(h:Ext a w):Ext a w.drew:=⟨h.below.drew⟩
theorem Ext.drewN {a:a6}(h:Ext a w)(n:Nat):Ext a (w.drewN n):=⟨⟨h.below.os,h.below.tape,h.below.output,h.below.size,h.below.block⟩⟩
theorem Ext.setCell {a:a6}(h:Ext a w)(hp:a.heap.size≤p.block)(u:aF):Ext a (w.setCell p u):=⟨h.below.setCell hp u⟩
theorem Ext.grown {a:a6}{row:Option Nat}(h:Ext a w)(hg:w.grownBy w' row)(hr:∀k,row=some k→a.heap.size≤k):Ext a w':=⟨h.below.grown hg h.below.size hr⟩
theorem Ext.of_grown (hg:w.grownBy w' none):Ext w w':=(Ext.refl w).grown hg (fun _ h=>by cases h)
theorem Ext.cell (h:Ext w w')(hc:w.cell? p=some v):w'.cell? p=some v:=
 (h.below.cell (World.block_lt_of_cell? w p hc)).trans hc
theorem Ext.heap (h:Ext w w'){o:Obj}(hc:w.heap[g]?=some o):w'.heap[g]?=some o:=
 (h.below.block g (qB.1 hc).1).trans hc
structure Upd (g:Nat)(w w':a6):Prop where
 by_:w.grownBy w' (some g)
theorem Upd.ext {a:a6}(h:Upd g w w')(e:Ext a w)(hg:a.heap.size≤g):Ext a w':=e.grown h.by_ (fun k f=>by cases f;exact hg)
theorem Upd.refl (g:Nat)(w:a6):Upd g w w:=⟨GY _ _⟩
theorem Upd.trans {a b c:a6}(h:Upd g a b)(k:Upd g b c):Upd g a c:=
 ⟨⟨k.by_.os.trans h.by_.os,k.by_.tape.trans h.by_.tape,k.by_.output.trans h.by_.output,a8 h.by_.size k.by_.size,
  fun i hi f=>(k.by_.block i (dA hi h.by_.size) f).trans (h.by_.block i hi f)⟩⟩
theorem Upd.setCell {a:a6}(h:Upd g a w)(i:Nat)(u:aF):Upd g a (w.setCell ⟨g,i,none⟩ u):=
 h.trans ⟨⟨rfl,rfl,rfl,by simp [wH],fun k _ f=>RA _ _ _ _ (fun e=>f (by rw [e]))⟩⟩
theorem Upd.drew {a:a6}(h:Upd g a w):Upd g a w.drew:=⟨⟨h.by_.os,h.by_.tape,h.by_.output,h.by_.size,h.by_.block⟩⟩
theorem Upd.then_ext {a:a6}(h:Upd g a w)(e:Ext w w'):Upd g a w':=
 h.trans ⟨⟨e.below.os,e.below.tape,e.below.output,e.below.size,fun k f _=>e.below.block k f⟩⟩
theorem Upd.of_ext (e:Ext w w'):Upd g w w':=(Upd.refl g w).then_ext e
theorem Upd.heap (h:Upd g w w'){o:Obj}(hc:w.heap[k]?=some o)(hne:k≠g):w'.heap[k]?=some o:=
 (h.by_.block k (qB.1 hc).1 (fun e=>hne (kO e))).trans hc
theorem Upd.size (h:Upd g w w'):w.heap.size≤w'.heap.size:=h.by_.size
theorem Upd.cell (h:Upd g w w')(hc:w.cell? p=some v)(hne:p.block≠g):w'.cell? p=some v:=
 h.by_.cell hc (fun e=>hne (kO e))
structure Rv (w:a6)(s:Nat)(A:Option a7)(n cap:Nat)(vs:List aF):Prop where
 len:vs.length=n*s
 le:n≤cap
 max:cap≤maxLen
 get:∀i,i<n*s→∃a,A=some a∧w.cell? (a.add i)=some (vs.getD i undef)
 blk:∀a,A=some a→0<cap→a.block<w.heap.size
theorem Rv.ext {s:Nat}(h:Rv w s A n cap vs)(e:Ext w w'):Rv w' s A n cap vs:=
 ⟨h.len,h.le,h.max,fun i hi=>by obtain⟨a,f,hc⟩:=h.get i hi;exact⟨a,f,e.cell hc⟩,fun a f hc=>dA (h.blk a f hc) e.size⟩
theorem Rv.upd {s:Nat}(h:Rv w s A n cap vs)(e:Upd g w w')(hne:∀a,A=some a→a.block≠g):Rv w' s A n cap vs:=
 ⟨h.len,h.le,h.max,fun i hi=>by obtain⟨a,f,hc⟩:=h.get i hi;exact⟨a,f,e.cell hc (by rw [vY];exact hne a f)⟩,fun a f hc=>dA (h.blk a f hc) e.size⟩
theorem Rv.nil (w:a6)(s:Nat):Rv w s none 0 0 []:=⟨by simp,aU _,by decide,fun i hi=>by omega,fun a f=>by cases f⟩
theorem Rv.cut {s:Nat}(h:Rv w s A n cap vs){l:Nat}(hl:l≤k)(hk:k≤n)(hm:k≤m)(hc:m≤cap):Rv w s (if m=l then A else A.map (·.add (l*s))) (k-l) (m-l) ((vs.take (k*s)).drop (l*s)):=by
 have F:k*s≤n*s:=fC s hk;have G:l*s≤k*s:=fC s hl;refine⟨?_,by omega,a8 i9 h.max,fun i hi=>?_,fun a o _=>?_⟩
 ·rw [iK,eB,h.len,Nat.sub_mul,iJ F]
 ·rw [Nat.sub_mul] at hi;obtain⟨a,o,f⟩:=h.get (l*s+i) i9
  have E:¬m=l:=fun e=>by
   have:k=l:=by omega
   subst this;omega
  rw [if_neg E,o];refine⟨a.add (l*s),rfl,?_⟩;rw [oY,f];congr 1;simp only [bL,nO];rw [lK,if_pos i9]
 split at o
 ·exact h.blk a o i9
 cases A with
 | none=>cases o
 | some b=>simp only [sM,f7] at o;subst o;rw [vY];exact h.blk b rfl i9
structure Rd (w:a6)(A:Option a7)(n cap:Nat)(xs:List Nat):Prop where
 rv:Rv w 1 A n cap (xs.map bF)
 wf:Wf xs
theorem Rd.ext (h:Rd w A n cap xs)(e:Ext w w'):Rd w' A n cap xs:=⟨h.rv.ext e,h.wf⟩
theorem Rd.upd (h:Rd w A n cap xs)(e:Upd g w w')(hne:∀a,A=some a→a.block≠g):Rd w' A n cap xs:=⟨h.rv.upd e hne,h.wf⟩
theorem Rd.len (h:Rd w A n cap xs):xs.length=n:=by simpa using h.rv.len
theorem Rd.nil (w:a6):Rd w none 0 0 []:=⟨Rv.nil w 1,QK⟩
theorem Rd.get (h:Rd w A n cap xs)(hi:i<n):∃a x,A=some a∧Hid (xs.getD i 0=x)∧x≤18446744073709551615∧w.cell? (a.add i)=some (t9 (x:Int)):=by
 obtain⟨a,o,hc⟩:=h.rv.get i i9;have hl:i<xs.length:=by rw [h.len];exact hi
 have f:=uB h.wf i;refine⟨a,_,o,rfl,by rw [dJ] at f;omega,?_⟩;rw [hc];simp [bL,jM,cT hl]
theorem Rd.cut (h:Rd w A n cap xs){l:Nat}(hl:l≤k)(hk:k≤n)(hm:k≤m)(hc:m≤cap):Rd w (if m=l then A else A.map (·.add l)) (k-l) (m-l) ((xs.take k).drop l):=by
 have:=h.rv.cut hl hk hm hc;simp only [eH] at this;refine⟨?_,GN (uA h.wf _) _⟩;rw [wP,m6];exact this
theorem Rd.take (h:Rd w A n cap xs)(hk:k≤n)(hm:k≤m)(hc:m≤cap):Rd w A k m (xs.take k):=by
 have:=h.cut (l:=0) (bX _) hk hm hc;simp only [Nat.sub_zero,iN] at this
 have e:(if m=0 then A else A.map (·.add 0))=A:=by
  have h0:∀a:a7,a.add 0=a:=fun a=>by simp [pI]
  split
  ·rfl
  ·cases A <;> simp [h0]
 rwa [e] at this
def Bk (w:a6)(g:Nat)(t:aS)(vs:List aF):Prop:=w.heap[g]?=some (.cells vs.toArray t (0,0))
section
variable {w w':a6}{g:Nat}{t:aS}{vs:List aF}
theorem Bk.lt (h:Bk w g t vs):g<w.heap.size:=(qB.1 h).1
theorem Bk.ext (h:Bk w g t vs)(e:Ext w w'):Bk w' g t vs:=e.heap h
theorem Bk.upd (h:Bk w g t vs)(e:Upd k w w')(hne:g≠k):Bk w' g t vs:=e.heap h hne
theorem Bk.cell (h:Bk w g t vs)(hi:i<vs.length):w.cell? ⟨g,i,none⟩=some (vs.getD i undef):=by
 rw [cell_of_row w g i _ t (0,0) h];simp [bL,cT hi]
theorem Bk.frozen (h:Bk w g t vs)(i:Nat):w.frozen? ⟨g,i,none⟩=false:=by
 unfold Bk at h;simp [World.frozen?,h]
theorem Bk.new (w:a6)(t:aS)(vs:List aF):Bk (w.alloc (.cells vs.toArray t)) w.heap.size t vs:=heap_alloc_new w _
theorem Bk.new' (w:a6)(t:aS)(cs:Array aF):Bk (w.alloc (.cells cs t)) w.heap.size t cs.toList:=heap_alloc_new w _
theorem Bk.set (h:Bk w g t vs)(i:Nat)(u:aF):Bk (w.setCell ⟨g,i,none⟩ u) g t (vs.set i u):=by
 unfold Bk at h⊢;simp [wH,Array.getElem?_modify,h]
theorem Bk.far (h:Bk w g t vs)(hp:g≠p.block)(u:aF):Bk (w.setCell p u) g t vs:=(RA w p u g hp).trans h
theorem Bk.alloc (h:Bk w g t vs)(o:Obj):Bk (w.alloc o) g t vs:=h.ext ((Ext.refl w).alloc o)
theorem Bk.drew (h:Bk w g t vs):Bk w.drew g t vs:=h
theorem Bk.drewN (h:Bk w g t vs)(n:Nat):Bk (w.drewN n) g t vs:=h
theorem Bk.rv (h:Bk w g t vs){o:Nat}(hn:n≤cap)(hc:o+cap≤vs.length)(hm:cap≤maxLen):Rv w 1 (some ⟨g,o,none⟩) n cap ((vs.drop o).take n):=by
 refine⟨by rw [eB,iK];omega,hn,hm,fun i hi=>⟨_,rfl,?_⟩,fun a f _=>by cases f;exact h.lt⟩;rw [jI,h.cell i9];congr 1;simp only [bL,lK,nO];rw [if_pos i9]
theorem Bk.rd (h:Bk w g t (xs.map bF))(hw:Wf xs){o:Nat}(hn:n≤cap)(hc:o+cap≤xs.length)(hm:cap≤maxLen):Rd w (some ⟨g,o,none⟩) n cap ((xs.drop o).take n):=by
 refine⟨?_,uA (GN hw _) _⟩;rw [m6,wP];exact h.rv hn (by simpa using hc) hm
end
theorem Bk.word {t:aS}(h:Bk w g t (xs.map bF))(hw:Wf xs)(hi:i<xs.length):∃x,Hid (xs.getD i 0=x)∧x≤18446744073709551615∧w.cell? ⟨g,i,none⟩=some (t9 (x:Int)):=by
 have f:=uB hw i;refine⟨_,rfl,by rw [dJ] at f;omega,?_⟩;rw [h.cell (by simpa using hi)];simp [bL,jM,cT hi]
def Own (w:a6)(base:Nat)(t:aS)(s:Nat)(A:Option a7)(n cap:Nat)(vs:List aF):Prop:=
 (A=none∧n=0∧cap=0∧vs= [])∨∃g cs,A=some ⟨g,0,none⟩∧base≤g∧Bk w g t cs∧n≤cap∧cap≤maxLen∧cs.length=cap*s∧cs.take (n*s)=vs
section
variable {w w':a6}{base:Nat}{t:aS}{s:Nat}{A:Option a7}{n cap:Nat}{vs:List aF}
theorem Own.nil (w:a6)(base:Nat)(t:aS)(s:Nat):Own w base t s none 0 0 []:=cJ ⟨rfl,rfl,rfl,rfl⟩
theorem Own.mk_ (hb:base≤g)(h:Bk w g t cs)(hn:n≤cap)(hm:cap≤maxLen)(hl:cs.length=cap*s)(hv:cs.take (n*s)=vs):Own w base t s (some ⟨g,0,none⟩) n cap vs:=
 cN ⟨g,cs,rfl,hb,h,hn,hm,hl,hv⟩
theorem Own.ext (h:Own w base t s A n cap vs)(e:Ext w w'):Own w' base t s A n cap vs:=by
 rcases h with h | ⟨g,cs,o,hb,f,r⟩
 ·exact cJ h
 exact cN ⟨g,cs,o,hb,f.ext e,r⟩
theorem Own.upd (h:Own w base t s A n cap vs)(e:Upd k w w')(hne:∀a,A=some a→a.block≠k):Own w' base t s A n cap vs:=by
 rcases h with h | ⟨g,cs,f,hb,o,r⟩
 ·exact cJ h
 exact cN ⟨g,cs,f,hb,o.upd e (hne _ f),r⟩
theorem Own.mono (h:Own w base t s A n cap vs)(hb:base'≤base):Own w base' t s A n cap vs:=by
 rcases h with h | ⟨g,cs,f,hg,r⟩
 ·exact cJ h
 exact cN ⟨g,cs,f,by omega,r⟩
theorem Own.rv (h:Own w base t s A n cap vs):Rv w s A n cap vs:=by
 rcases h with⟨rfl,rfl,rfl,rfl⟩ | ⟨g,cs,rfl,hb,f,hn,hm,hl,rfl⟩
 ·exact Rv.nil w s
 have o:n*s≤cap*s:=fC s hn;refine⟨by rw [eB];omega,hn,hm,fun i hi=>⟨_,rfl,?_⟩,fun a E _=>by cases E;exact f.lt⟩;rw [jI,eR,f.cell i9];congr 1;simp only [bL,lK];rw [if_pos hi]
theorem Own.rd (h:Own w base t 1 A n cap (xs.map bF))(hw:Wf xs):Rd w A n cap xs:=⟨h.rv,hw⟩
theorem Own.block (h:Own w base t s A n cap vs):∀a,A=some a→base≤a.block∧a.block<w.heap.size:=by
 intro a f;rcases h with h | ⟨g,cs,o,hb,E,_⟩
 ·rw [h.1] at f;cases f
 rw [o] at f;cases f;exact⟨hb,E.lt⟩
end
theorem eV:maxLen=9223372036854775807:=rfl
theorem eM (xs:List Nat)(i x:Nat):(xs.map bF).set i (t9 (x:Int))=(xs.set i x).map bF:=by rw [List.map_set]
def zc (z:aF)(n:Nat):Array aF:=(dF n z).toArray
theorem zE (z:aF)(n:Nat):(zc z n).toList=dF n z:=rfl
theorem mB {t:aS}{z:aF}(ht:P.underlying t=some (.slice e))(hinfo:(P.info? e).map (fun i=>(i.zero,i.size,i.bytes))=some (some z,1,bytes))(hz:z.cells= #[z])(hby:bytes≤64)(l:Int)(h0:0≤l)(h1:l≤1099511627776)(w:a6):(sS t (no l) (no l)).run P w= .ok (up (some ⟨w.heap.size,0,none⟩) l.toNat l.toNat) (w.alloc (.cells (zc z l.toNat) e)):=by
 obtain⟨i,hi,f,E,o⟩:=qY hinfo;have h:=run_make (P:=P) w t e i z ht hi f .i64 .i64 l l h0 (Int.le_refl _) (by rw [o];have:(bytes:Int)*l≤64*1099511627776:=Int.mul_le_mul i9 h1 h0 i9;omega) i9;rw [h,E,eH,hz];congr 3;apply Array.ext';rw [toList_madeCells_one,zE]
theorem K0 {t:aS}{z:aF}(ht:P.underlying t=some (.slice e))(hinfo:(P.info? e).map (fun i=>(i.zero,i.size,i.bytes))=some (some z,1,bytes))(hz:z.cells= #[z])(hby:bytes≤64)(l:Int)(h0:0≤l)(h1:l≤1099511627776)(w:a6):(sS t (no 0) (no l)).run P w= .ok (up (some ⟨w.heap.size,0,none⟩) 0 l.toNat) (w.alloc (.cells (zc z l.toNat) e)):=by
 obtain⟨i,hi,f,E,o⟩:=qY hinfo;have h:=run_make (P:=P) w t e i z ht hi f .i64 .i64 0 l i9 h0 (by rw [o];have:(bytes:Int)*l≤64*1099511627776:=Int.mul_le_mul i9 h1 h0 i9;omega) i9;rw [h,E,eH,hz];congr 3;apply Array.ext';rw [toList_madeCells_one,zE]
theorem Upd.setRow {a:a6}(h:Upd g a w)(cs:Array aF):Upd g a (w.setRow g cs):=
 h.trans ⟨⟨rfl,rfl,rfl,by simp [World.setRow],fun k _ f=>setRow_other w g k cs (fun e=>f (by rw [e]))⟩⟩
theorem dU {Q:dX→Act→a6→Prop}(d:Option Tmp){op:Op}{type:aS}{pos:String}(h:wpList P ops Q (⟨d,op,type,pos,after,guard⟩::rest) a w):wpList P ops Q (⟨d,op,type,pos,after,guard⟩::rest) a w:=h
theorem zF {Q:dX→Act→a6→Prop}(hgd:o.guard=none)(d s:cR)(dT sT:aS)(ho:o.op= .call {callee:= .builtin .copy,args:= #[d,s],argTypes:= #[dT,sT]}){dLen dCap sLen sCap:Nat}(hd:a.eval d= up dp dLen dCap)(hs:a.eval s= up sp sLen sCap){elem:aS}(hu:P.underlying dT=some (.slice elem))(hsz:(P.info? elem).map (·.size)=some 1){t:aS}(hg:Bk w g t vs)(hsrc:Rv w 1 sp sLen sCap us)(hpos:0<dLen→dp=some ⟨g,off,none⟩)(hfit:off+dLen≤vs.length)(h1:∀v∈us,v.oneCell'=true)(h:∀w',Bk w' g t (splice vs off (us.take dLen))→Upd g w w'→wpList P ops Q rest (a.put o.dst (goInt (min sLen dLen:Nat))) w'):wpList P ops Q (o::rest) a w:=by
 have f:us.length=sLen:=by simpa using hsrc.len
 have hl:(us.take dLen).length=Nat.min sLen dLen:=by rw [eB,f,Nat.min_comm]
 by_cases h0:Nat.min sLen dLen=0
 ·refine wpList_copy_nothing hgd d s dT sT ho elem hu hsz dp sp dLen dCap sLen sCap hd hs h0 ?_;have e:us.take dLen= []:=uL i9;have:=h w (by rw [e];simpa [splice] using hg) (Upd.refl g w);rwa [show (min sLen dLen:Nat)=0 from h0] at this
 have h0':¬min sLen dLen=0:=h0;have F:0<dLen:=by omega
 obtain⟨ad,rfl,_⟩:=hsrc.get 0 i9;obtain rfl:=hpos F;refine wpList_copy_own hgd d s dT sT ho elem hu hsz g off dLen dCap ad sLen sCap hd hs vs.toArray t hg (us.take dLen) hl ?_ ?_ (fun v E=>h1 v (sR E)) ?_
 ·intro j v E;have G:j<(us.take dLen).length:=(gU.1 E).1;have hj':j<min sLen dLen:=by rw [hl] at G;exact G
  obtain⟨a',ha',hc⟩:=hsrc.get j i9;cases ha';rw [hc,←E,lK,if_pos i9,bL,cT i9];rfl
 ·simp only [CO];have:(us.take dLen).length≤dLen:=by rw [eB];omega
  omega
 have h':=h;rw [show min sLen dLen=(us.take dLen).length from hl.symm] at h';refine h' _ ?_ ((Upd.refl g w).setRow _);show _=_;simpa [splice] using setRow_heap w g _ _ t _ hg
structure UpdO (A:Option a7)(w w':a6):Prop where
 by_:w.grownBy w' (A.map (·.block))
theorem UpdO.ext {a:a6}(h:UpdO A w w')(e:Ext a w)(hA:∀p,A=some p→a.heap.size≤p.block):Ext a w':=
 e.grown h.by_ (fun k f=>by cases A with | none=>cases f | some p=>cases f;exact hA p J)
theorem UpdO.heap (h:UpdO A w w'){o:Obj}(hc:w.heap[k]?=some o)(hne:∀p,A=some p→p.block≠k):w'.heap[k]?=some o:=
 (h.by_.block k (qB.1 hc).1 (fun e=>by cases A with | none=>cases e | some p=>cases e;exact hne p J J)).trans hc
theorem UpdO.size (h:UpdO A w w'):w.heap.size≤w'.heap.size:=h.by_.size
theorem Bk.updO {t:aS}(h:Bk w g t vs)(e:UpdO A w w')(hne:∀p,A=some p→p.block≠g):Bk w' g t vs:=e.heap h hne
theorem Own.updO {t:aS}{s:Nat}(h:Own w base t s B n cap vs)(e:UpdO A w w')(hne:∀p q,A=some p→B=some q→p.block≠q.block):Own w' base t s B n cap vs:=by
 rcases h with h | ⟨g,cs,f,hb,o,r⟩
 ·exact cJ h
 exact cN ⟨g,cs,f,hb,o.updO e (fun p E=>hne p _ E f),r⟩
theorem Own.row {t:aS}{s:Nat}(h:Own w base t s A n cap vs):w.ownsRow base t s (up A n cap) n vs:=by
 rcases h with⟨rfl,rfl,rfl,rfl⟩ | ⟨g,cs,rfl,hb,o,hn,hm,hl,rfl⟩
 ·exact⟨by simp,cJ ⟨rfl,rfl⟩⟩
 have f:n*s≤cap*s:=fC s hn;exact⟨by rw [eB];omega,cN ⟨g,cap,cs.toArray,rfl,hb,o,hn,hm,by simpa using hl,by simp⟩⟩
theorem Own.of_row {t:aS}{s:Nat}(h:w.ownsRow base t s v n vs):∃A cap,v= up A n cap∧Own w base t s A n cap vs:=by
 obtain⟨hl,h⟩:=h;rcases h with⟨rfl,rfl⟩ | ⟨g,cap,cur,rfl,hb,f,hn,hm,hs,ht⟩
 ·exact⟨none,0,rfl,cJ ⟨rfl,rfl,rfl,uL (by simpa using hl)⟩⟩
 exact⟨_,_,rfl,cN ⟨g,cur.toList,rfl,hb,by unfold Bk;simpa using f,hn,hm,by simpa using hs,ht⟩⟩
theorem EG (A:Option a7)(n cap:Nat):(qZ A n cap).ownBlock=A.map (·.block):=by cases A <;> rfl
theorem E3 (w:a6)(base:Nat)(t ty e:aS)(i:TypeInfo)(size:Nat)(ht:P.underlying t=some (.slice e))(hi:P.info? e=some i)(v:aF)(n:Nat)(xs:List aF)(hown:w.ownsRow base e size v n xs)(c:Nat):(pG #[t,t] ty #[v,up none 0 c]).run P w= .ok v w:=by
 rcases hown.2 with⟨rfl,rfl⟩ | ⟨g,cap,cur,rfl,_,_,f,_⟩
 ·simp [pG,nL ht,sizeOf,typeInfo,hi,zB,R9]
 simp [pG,nL ht,sizeOf,typeInfo,hi,zB,R9,f,storeCells]
theorem I5 {Q:dX→Act→a6→Prop}(hgd:o.guard=none)(s x:cR)(t:aS)(ho:o.op= .call {callee:= .builtin .append,args:= #[s,x],argTypes:= #[t,t]})(hs:a.eval s= up A n cap)(hx:a.eval x= up S m c){z:aF}{size:Nat}(ht:P.underlying t=some (.slice e))(hinfo:(P.info? e).map (fun i=>(i.zero,i.size,i.bytes))=some (some z,size,bytes))(hzs:z.cells.size=size)(hsz:0<size){news:List aF}(hown:Own w base e size A n cap vs)(hsrc:Rv w size S m c news)(h1:∀u∈news,u.oneCell'=true)(hbytes:(n+m)*bytes≤140737488355328)(h63:n+m≤maxLen)(hbase:base≤w.heap.size)(h:∀A' cap' w',Own w' base e size A' (n+m) cap' (vs++news)→UpdO A w w'→(A'.map (·.block)=A.map (·.block)∨A'.map (·.block)=some w.heap.size)→
   wpList P ops Q rest (a.put o.dst (up A' (n+m) cap')) w'):wpList P ops Q (o::rest) a w:=by
 obtain⟨i,hi,f,F,E⟩:=qY hinfo;cases S with
 | none=>
  have hm:m=0:=by
   rcases lT m with h0 | h0
   ·exact h0
   ·obtain⟨ad,h,_⟩:=hsrc.get 0 (jZ h0 hsz)
    cases h
  subst hm
  have hn:news= []:=uL (by simpa using hsrc.len)
  subst hn
  refine CI hgd fun K M=>?_
  have hr:=E3 (P:=P) w base t o.type e i size ht hi (up A n cap) n vs hown.row c
  unfold pA execOp
  simp only [ho,resolve,invoke,builtin,cV,iH,fK,pE,jS,kR,hs,hx,hr]
  exact M _ _ (h A cap w (by simpa using hown) ⟨GY _ _⟩ (cJ J))
 | some ad=>
  refine wpList_append_own_at w hgd s x t ho base e i z size bytes ht hi f F E hzs hsz (up A n cap) n vs hs hown.row ad m c news hx hsrc.len ?_ h1 h63 hbytes hbase ?_
  ·intro j u I
   have H:j<news.length:=(gU.1 I).1
   obtain⟨a',ha',hc⟩:=hsrc.get j (by rw [←hsrc.len];exact H)
   cases ha'
   rw [hc,←I,bL,cT H]
   rfl
  ·intro v' w' h2 L _ G
   obtain⟨A',cap',rfl,U⟩:=Own.of_row h2
   rw [EG,EG] at G
   rw [EG] at L
   exact h A' cap' w' U ⟨L⟩ G
theorem Rv.one (w:a6)(t:aS)(v:aF):Rv (w.alloc (.cells #[v] t)) 1 (some ⟨w.heap.size,0,none⟩) 1 1 [v]:=by
 have h:=Bk.new w t [v];exact h.rv (o:=0) (n:=1) (cap:=1) (aU _) ym (by rw [eV];omega)
theorem CD (xs:List Nat):∀v∈xs.map bF,v.oneCell'=true:=by
 intro v f;obtain⟨x,_,rfl⟩:=List.mem_map.1 f;rfl
theorem DM (xs ys:List Nat)(o:Nat):splice (xs.map bF) o (ys.map bF)=(splice xs o ys).map bF:=by
 simp [splice,m6,wP]
theorem UM {α:Type}(xs ys:List α)(h:ys.length=xs.length):splice xs 0 ys=ys:=by
 simp [splice,h]
theorem kG (n:Nat):dF n (eL .u64 0)=(dF n 0).map bF:=by rw [List.map_replicate];rfl
abbrev Fr:=List (Nat×aF)
def look:Fr→Nat→Option aF
 | [],_=>none
 | (j,v)::l,i=>bif q8 j i then some v else look l i
structure Rp (n:Nat)(l:Fr)(a:Act):Prop where
 size:a.tmps.size=n
 nod:a.defers= []
 val:∀i v,look l i=some v→a.tmps.getD i undef=v
def cB (l:Fr):cR→Option aF
 | .tmp i=>look l i
 | .const v=>some v
 | .global g=>some (.pointer (some ⟨g,0,none⟩))
 | .func f=>some (.func (.func f) #[] #[])
def rho (l:Fr)(x:cR):aF:=(cB l x).getD undef
theorem Rp.ev {l:Fr}(h:Rp n l a){x:cR}(hx:cB l x=some v):a.eval x=v:=by
 cases x with
 | tmp i=>exact h.val i v hx
 | const u=>exact kO hx
 | global g=>exact kO hx
 | func f=>exact kO hx
theorem Rp.rho {l:Fr}(h:Rp n l a){x:cR}(hx:(cB l x).isSome=true):a.eval x=rho l x:=by
 obtain⟨v,f⟩:=Option.isSome_iff_exists.1 hx;rw [h.ev f,Go.Proofs.YtkkabncicmhjfaaGreatDoor.rho,f];rfl
theorem Rp.put {l:Fr}(h:Rp n l a)(hd:d<n)(v:aF):Rp n ((d,v)::l) (a.put (some d) v):=by
 refine⟨by simp [qC,h.size],by simp [qC,h.nod],fun i u hi=>?_⟩;simp only [look] at hi;have hs:d<a.tmps.size:=by rw [h.size];exact hd
 by_cases e:d=i
 ·subst e;rw [Nat.beq_refl] at hi;cases hi;simp [qC,hs]
 have hb:q8 d i=false:=by
  cases hh:q8 d i with
  | false=>rfl
  | true=>exact absurd (sQ hh) e
 rw [hb] at hi;have:=h.val i u hi;simp only [qC,sU] at this⊢;rwa [HA e]
def Keeps (l:Fr):Fr→Prop
 | []=>True
 | (i,v)::r=>look l i=some v∧Keeps l r
theorem Keeps.look {l:Fr}:∀{l':Fr},Keeps l l'→∀i v,look l' i=some v→look l i=some v
 | [],_,i,v,h=>by cases h
 | (j,u)::r,hk,i,v,h=>by
  simp only [Go.Proofs.YtkkabncicmhjfaaGreatDoor.look] at h
  cases hb:q8 j i with
  | true=>
   rw [hb] at h
   have e:=sQ hb
   subst e
   cases h
   exact hk.1
  | false=>
   rw [hb] at h
   exact hk.2.look i v h
theorem Rp.keep {l l':Fr}(h:Rp n l a)(hk:Keeps l l'):Rp n l' a:=⟨h.size,h.nod,fun i v hi=>h.val i v (hk.look i v hi)⟩
section
variable {P:cO}{Q:dX→Act→a6→Prop}{n:Nat}{l:Fr}{w:a6}
def cw (P:cO)(Q:dX→Act→a6→Prop)(n:Nat)(c:Code)(l:Fr)(w:a6):Prop:=∀a,Rp n l a→c.wp P Q a w
def wl (P:cO)(ops:Array bE)(Q:dX→Act→a6→Prop)(n:Nat)(rest:List bE)(l:Fr)(w:a6):Prop:=∀a,Rp n l a→wpList P ops Q rest a w
def eo (Q:dX→Act→a6→Prop)(e:dX)(n:Nat)(l:Fr)(w:a6):Prop:=∀a,Rp n l a→Q e a w
theorem f9 {c:Code}(l':Fr)(hk:Keeps l l')(h:cw P Q n c l' w):cw P Q n c l w:=fun a f=>h a (f.keep hk)
theorem fU {e:dX}(l':Fr)(hk:Keeps l l')(h:eo Q e n l' w):eo Q e n l w:=fun a f=>h a (f.keep hk)
theorem aD {x y:Code}(h:cw P (Exit.then (fun a w=>y.wp P Q a w) Q) n x l w):cw P Q n (.seq x y) l w:=fun a f=>wp_seq (h a f)
theorem bH (h:wl P ol.toArray Q n ol l w):cw P Q n (.region id ol.toArray false) l w:=fun a f=>wp_region_lit (h a f)
theorem cF (h:eo Q .normal n l w):wl P ops Q n [] l w:=fun a f=>wpList_nil (h a f)
theorem aL {y:Code}(h:cw P Q n y l w):eo (Exit.then (fun a w=>y.wp P Q a w) Q) .normal n l w:=h
theorem bB (h:eo Q .normal n l w):cw P Q n .skip l w:=fun a f=>wp_skip (h a f)
theorem d9 (h:eo Q (.exit i) n l w):cw P Q n (.exit i) l w:=fun a f=>wp_exit (h a f)
theorem bA (h:eo Q .ret n l w):cw P Q n .ret l w:=fun a f=>wp_ret (h a f)
theorem bO {c:Code}(h:cw P (uM i Q) n c l w):cw P Q n (.block i c) l w:=fun a f=>wp_block (h a f)
theorem bC {c:cR}{x y:Code}(hc:cB l c=some (we))(h:cw P Q n x l w):cw P Q n (.cond c x y) l w:=fun a f=>wp_cond_true (f.ev hc) (h a f)
theorem aT {c:cR}{x y:Code}(hc:cB l c=some (wk))(h:cw P Q n y l w):cw P Q n (.cond c x y) l w:=fun a f=>wp_cond_false (f.ev hc) (h a f)
theorem d8 (h:eo Q .normal n l w):eo (uM i Q) (.exit i) n l w:=fun a f=>by simp only [uM,if_true];exact h a f
theorem BQ (h:eo Q (.exit j) n l w)(hne:j≠i:=by decide):eo (uM i Q) (.exit j) n l w:=fun a f=>by simp only [uM,if_neg hne];exact h a f
theorem gV (h:eo Q .ret n l w):eo (uM i Q) .ret n l w:=h
theorem bT (h:eo Q .normal n l w):eo (uM i Q) .normal n l w:=h
def QV {T:Type}(n:Nat)(F:T→Fr)(W:T→a6)(H:T→Prop)(Q:dX→Act→a6→Prop):dX→Act→a6→Prop
 | .normal,a,w=>∃t,H t∧W t=w∧Rp n (F t) a
 | e,a,w=>Q e a w
theorem eO {T:Type}{F:T→Fr}{W:T→a6}{H:T→Prop}(t:T)(hH:H t)(hW:W t=w)(hk:Keeps l (F t)):eo (QV n F W H Q) .normal n l w:=fun _ f=>⟨t,hH,hW,f.keep hk⟩
theorem tZ {T:Type}(F:T→Fr)(W:T→a6)(H:T→Prop){x y:Code}(hx:cw P (QV n F W H Q) n x l w)(hy:∀t,H t→cw P Q n y (F t) (W t)):cw P Q n (.seq x y) l w:=
 aD fun a f=>H7 (fun e a' w' h=>by
  cases e with
  | normal=>obtain⟨t,o,rfl,hr⟩:=h;exact hy t o a' hr
  | _=>exact h) (hx a f)
def CF {T:Type}(n:Nat)(F:T→Fr)(W:T→a6)(H:T→Prop)(m:T→Nat)(k:Nat)(Q:dX→Act→a6→Prop):dX→Act→a6→Prop
 | .normal,a,w=>∃t,H t∧m t<k∧W t=w∧Rp n (F t) a
 | e,a,w=>Q e a w
theorem cP {T:Type}{F:T→Fr}{W:T→a6}{H:T→Prop}{m:T→Nat}(t:T)(hH:H t)(hm:m t<k)(hW:W t=w)(hk:Keeps l (F t)):eo (CF n F W H m k Q) .normal n l w:=fun _ f=>⟨t,hH,hm,hW,f.keep hk⟩
theorem dC {T:Type}(F:T→Fr)(W:T→a6)(H:T→Prop)(m:T→Nat){c:Code}(t0:T)(h0:H t0)(hW:W t0=w)(hk:Keeps l (F t0))(round:∀t,H t→cw P (CF n F W H m (m t) Q) n c (F t) (W t)):cw P Q n (.loop c) l w:=by
 classical
 intro a ha
 let S:Act→a6→Nat→Prop:=fun a w k=>∃t,H t∧m t=k∧W t=w∧Rp n (F t) a
 let I:Act→a6→Prop:=fun a w=>∃k,S a w k
 have hmin:∀a w,I a w→∃k,S a w k∧∀j,S a w j→k≤j:=by
  intro a w ⟨k,hk⟩
  induction k using uG with
  | ind k ih=>
   by_cases hs:∃j,S a w j∧j<k
   ·obtain⟨j,hj,hlt⟩:=hs
    exact ih j hlt hj
   ·exact⟨k,hk,fun j hj=>rA fun hlt=>hs ⟨j,hj,hlt⟩⟩
 let μ:Act→a6→Nat:=fun a w=>if h:I a w then zA (hmin a w h) else 0
 refine wp_loop I μ ⟨m t0,t0,h0,rfl,hW,ha.keep hk⟩ ?_;intro a w hI;have hμ:μ a w=zA (hmin a w hI):=dif_pos hI;obtain⟨hS,hle⟩:=H8 (hmin a w hI);rw [←hμ] at hS hle;obtain⟨t,hH,hm,rfl,hr⟩:=hS;refine H7 ?_ (round t hH a hr);intro e a' w' h;cases e with
 | normal=>
  obtain⟨t',hH',hm',hW',hr'⟩:=h
  have hI':I a' w':=⟨m t',t',hH',rfl,hW',hr'⟩
  refine⟨hI',?_⟩
  have hμ':μ a' w'=zA (hmin a' w' hI'):=dif_pos hI'
  have:=(H8 (hmin a' w' hI')).2 (m t') ⟨t',hH',rfl,hW',hr'⟩
  omega
 | _=>exact h
theorem cI {K:Act→a6→Prop}(h:eo Q .ret n l w):eo (Exit.then K Q) .ret n l w:=h
theorem cY {K:Act→a6→Prop}(h:eo Q (.exit i) n l w):eo (Exit.then K Q) (.exit i) n l w:=h
theorem oC {T:Type}{F:T→Fr}{W:T→a6}{H:T→Prop}{m:T→Nat}(h:eo Q .ret n l w):eo (CF n F W H m k Q) .ret n l w:=h
theorem d7 {T:Type}{F:T→Fr}{W:T→a6}{H:T→Prop}{m:T→Nat}(h:eo Q (.exit i) n l w):eo (CF n F W H m k Q) (.exit i) n l w:=h
theorem fW {c:Code}(l':Fr)(w':a6)(hw:w=w')(hk:Keeps l l')(h:cw P Q n c l' w'):cw P Q n c l w:=by subst hw;exact f9 l' hk h
def yH:List aF→Nat→Fr
 | [],_=> []
 | v::r,i=>(i,v)::yH r (i+1)
theorem MP:∀(args:List aF) (k i:Nat) (v:aF),look (yH args k) i=some v→k≤i∧args[i-k]?=some v
 | [],k,i,v,h=>by cases h
 | u::r,k,i,v,h=>by
  simp only [yH,look] at h
  cases hb:q8 k i with
  | true=>
   rw [hb] at h
   have e:=sQ hb
   subst e
   cases h
   simp
  | false=>
   rw [hb] at h
   obtain⟨h1,h2⟩:=MP r (k+1) i v h
   refine⟨by omega,?_⟩
   have:i-k=(i-(k+1))+1:=by omega
   rw [this];simpa using h2
theorem U4 {c:Code}{R:eF→a6→Prop}(hf:P.funcs[f]?=some fn)(hb:fn.body=some c)(hn:fn.ntmps=n)(hle:args.length≤n)(h:cw P (bodyPost P fn R) n c (yH args 0) w):aQ P f args.toArray w R:=by
 refine calls_of_wp hf hb (h _ ⟨?_,rfl,fun i v hi=>?_⟩)
 ·simp [hn];omega
 obtain⟨_,h2⟩:=MP args 0 i v hi;rw [Nat.sub_zero] at h2;have o:i<args.length:=(gU.1 h2).1;simp only [sU];rw [Array.getElem?_append_left (by simpa using o)];simp [h2]
def uZ (P:cO)(w:a6)(l:Fr):List wJ→List aF→Prop
 | [],[]=>True
 | .tmp t::r,v::vs=>look l t=some v∧uZ P w l r vs
 | .cell s t::r,v::vs=>(∃a,look l s=some (.pointer (some a))∧(loadVar t a).run P w= .ok v w)∧uZ P w l r vs
 | _,_=>False
def tD (tmps:Array aF):wJ→Sem aF
 | .tmp t=>pure (tmps.getD t undef)
 | .cell s t=>do loadVar t (←asAddr (tmps.getD s undef))
theorem DZ {a:Act}(ha:Rp n l a):∀(rl:List wJ) (vs:List aF),uZ P w l rl vs→(rl.mapM (tD a.tmps)).run P w= .ok vs w
 | [],[],_=>rfl
 | [],_::_,h=>by cases h
 | .tmp _::_,[],h=>by cases h
 | .cell _ _::_,[],h=>by cases h
 | .tmp t::rl,v::vs,h=>by
  obtain⟨h1,h2⟩:=h
  have f:(tD a.tmps (.tmp t)).run P w= .ok v w:=by
   show (Sem.pure (a.tmps.getD t undef)).run P w=_
   rw [ha.val t v h1];rfl
  rw [List.mapM_cons]
  simp only [cV,f,fK,DZ ha rl vs h2,iH]
 | .cell s t::rl,v::vs,h=>by
  obtain⟨⟨p,h1,o⟩,h2⟩:=h
  have f:(tD a.tmps (.cell s t)).run P w= .ok v w:=by
   have e:(do loadVar t (←asAddr (a.tmps.getD s undef)):Sem aF).run P w= .ok v w:=by
    rw [ha.val s _ h1];simpa [asAddr] using o
   exact e
  rw [List.mapM_cons]
  simp only [cV,f,fK,DZ ha rl vs h2,iH]
def E6:List aF→aF
 | [v]=>v
 | vs=> .tuple vs.toArray
theorem JZ (hr:fn.results=rl.toArray)(ha:Rp n l a)(h:uZ P w l rl vs):(results fn a.tmps).run P w= .ok (E6 vs) w:=by
 have h1:=DZ ha rl vs h;have e:results fn a.tmps=(do let vs←fn.results.mapM (tD a.tmps);pure (if h:vs.size=1 then vs[0] else .tuple vs)):=rfl
 have o:(fn.results.mapM (tD a.tmps)).run P w= .ok vs.toArray w:=by
  rw [hr,List.mapM_toArray]
  have f:(List.toArray<$>rl.mapM (tD a.tmps):Sem (Array aF))=(rl.mapM (tD a.tmps)>>=fun x=>pure x.toArray):=by rw [bind_pure_comp]
  rw [f]
  simp only [cV,h1,fK,iH]
 rw [e];simp only [cV,o,fK,iH]
 match vs with
 | []=>rfl
 | [v]=>rfl
 | u::v::r=>rfl
theorem aZ {R:eF→a6→Prop}(vs:List aF)(hr:fn.results=rl.toArray)(h:uZ P w l rl vs)(hR:R (.returned (E6 vs)) w):eo (bodyPost P fn R) .ret n l w:=
 fun _ f=>kE (JZ hr f h) f.nod hR
theorem sA {R:eF→a6→Prop}(vs:List aF)(hr:fn.results=rl.toArray)(h:uZ P w l rl vs)(hR:R (.returned (E6 vs)) w):eo (bodyPost P fn R) .normal n l w:=
 fun _ f=>bodyPost_end (JZ hr f h) f.nod hR
section ops
variable {ops:Array bE}{rest:List bE}{d:Nat}{op:Op}{ty:aS}{pos:String}{af:Array fL}
def dD (ops:Array bE)(l:Fr):Option (Nat×Bool)→Option Bool
 | none=>some true
 | some (g,b)=>
  match (ops[g]?).bind (·.dst) with
  | some c=>
   match look l c with
   | some (.bool x)=>some (x==b)
   | some (.tuple _)=>some false
   | _=>none
  | none=>none
theorem D9 {r:Bool}(h:dD ops l gd=some r)(ha:Rp n l a):wK ⟨dst,op,ty,pos,af,gd⟩ (yielded ops a.tmps)=r:=by
 cases gd with
 | none=>exact kO h
 | some p=>
  obtain⟨g,b⟩:=p
  simp only [dD] at h
  simp only [wK]
  cases hc:(ops[g]?).bind (·.dst) with
  | none=>rw [hc] at h;cases h
  | some c=>
   rw [hc] at h
   simp only at h
   have o:yielded ops a.tmps g=match a.tmps[c]? with | some (.bool b)=>some b | _=>none:=by
    unfold yielded;rw [hc];rfl
   cases hl:look l c with
   | none=>rw [hl] at h;cases h
   | some u=>
    rw [hl] at h
    have f:=ha.val c u hl
    rw [sU] at f
    cases u with
    | bool x=>
     simp only [f7] at h
     cases hx:a.tmps[c]? with
     | none=>rw [hx] at f;cases f
     | some v=>
      rw [hx] at f
      simp only [nM] at f
      subst f
      rw [o,hx,←h]
      cases x <;> cases b <;> rfl
    | tuple vs=>
     simp only [f7] at h
     cases hx:a.tmps[c]? with
     | none=>rw [o,hx,←h];rfl
     | some v=>
      rw [hx] at f
      simp only [nM] at f
      subst f
      rw [o,hx,←h];rfl
    | _=>cases h
variable {gd:Option (Nat×Bool)}
theorem D4 (hw:dD ops l gd=some true)(ha:Rp n l a)(h:∀K:Act→a6→Prop,(∀a w,wpList P ops Q rest a w→K a w)→pA P ⟨dst,op,ty,pos,af,gd⟩ a w K Q):wpList P ops Q (⟨dst,op,ty,pos,af,gd⟩::rest) a w:=
 wpList_step fun K f=>by rw [D9 hw ha];exact h K f
theorem S4 (hw:dD ops l gd=some false)(hn:d<n)(h:wl P ops Q n rest ((d,undef)::l) w):wl P ops Q n (⟨some d,op,ty,pos,af,gd⟩::rest) l w:=fun a f=>
 wpList_step fun K o=>by
  rw [D9 hw f]
  exact o _ _ (h _ (f.put hn undef))
theorem gO (hw:dD ops l gd=some true)(hn:d<n)(hr:∀a,Rp n l a→(execOp a.eval ⟨some d,op,ty,pos,af,gd⟩).run P w= .ok (.value v) w')(h:wl P ops Q n rest ((d,v)::l) w'):wl P ops Q n (⟨some d,op,ty,pos,af,gd⟩::rest) l w:=fun a f=>by
 refine D4 hw f fun K o=>?_
 unfold pA
 rw [hr a f]
 exact o _ _ (h _ (f.put hn v))
theorem RZ (hw:dD ops l gd=some true)(hr:∀a,Rp n l a→(execOp a.eval ⟨none,op,ty,pos,af,gd⟩).run P w= .ok .skip w')(h:wl P ops Q n rest l w'):wl P ops Q n (⟨none,op,ty,pos,af,gd⟩::rest) l w:=fun a f=>by
 refine D4 hw f fun K o=>?_
 unfold pA
 rw [hr a f]
 exact o _ _ (h _ f)
def AY:Op→Bool
 | .select .. =>false
 | _=>true
def kL (l:Fr)(op:Op):Bool:=AY op&&op.operands.toList.all fun x=>(cB l x).isSome
theorem tX {g:Option (Nat×Bool)}(hk:kL l op=true)(ha:Rp n l a):execOp a.eval ⟨dst,op,ty,pos,af,g⟩=execOp (rho l) ⟨dst,op,ty,pos,af,g⟩:=by
 simp only [kL,fB,gK] at hk;refine execOp_congr _ (fun cs b e=>?_) (fun x hx=>ha.rho (hk.2 x (by simpa using hx)));simp only at e;rw [e] at hk;exact absurd hk.1 (by simp [AY])
theorem I9 (hw:dD ops l gd=some true)(hk:kL l op=true)(hn:d<n)(hr:(execOp (rho l) ⟨some d,op,ty,pos,af,gd⟩).run P w= .ok (.value v) w)(h:wl P ops Q n rest ((d,v)::l) w):wl P ops Q n (⟨some d,op,ty,pos,af,gd⟩::rest) l w:=
 gO hw hn (fun a f=>by rw [tX hk f];exact hr) h
theorem S8 {x:cR}(hw:dD ops l gd=some true)(hx:cB l x=some v)(hn:d<n)(h:wl P ops Q n rest ((d,v)::l) w):wl P ops Q n (⟨some d,.move x,ty,pos,af,gd⟩::rest) l w:=
 gO hw hn (fun a f=>by simp only [execOp,f.ev hx];rfl) h
theorem SH {x:cR}(hw:dD ops l gd=some true)(hx:cB l x=some v)(hn:d<n)(h:wl P ops Q n rest ((d,v)::l) w):wl P ops Q n (⟨some d,.assign x,ty,pos,af,gd⟩::rest) l w:=
 gO hw hn (fun a f=>by simp only [execOp,f.ev hx];rfl) h
theorem D5 {x:cR}{t:aS}(hw:dD ops l gd=some true)(hx:cB l x=some (.pointer (some p)))(hl:(loadVar t p).run P w= .ok v w)(hn:d<n)(h:wl P ops Q n rest ((d,v)::l) w):wl P ops Q n (⟨some d,.load t x,ty,pos,af,gd⟩::rest) l w:=
 gO hw hn (fun a f=>by
  have e:(CU t (a.eval x)).run P w= .ok v w:=by rw [f.ev hx];exact hl
  show ((CU t (a.eval x)>>=fun r=>pure (iE r):Sem gS)).run P w=_
  rw [cV,e];rfl) h
theorem wV {x y:cR}{t:aS}(hw:dD ops l gd=some true)(hx:cB l x=some (.pointer (some p)))(hy:cB l y=some v)(hs:(storeVar t p v).run P w= .ok () w')(h:wl P ops Q n rest l w'):wl P ops Q n (⟨none,.store t x y,ty,pos,af,gd⟩::rest) l w:=
 RZ hw (fun a f=>by
  have e:(CT t (a.eval x) (a.eval y)).run P w= .ok () w':=by rw [f.ev hx,f.ev hy];exact hs
  show ((CT t (a.eval x) (a.eval y)>>=fun _=>pure Next.skip:Sem gS)).run P w=_
  rw [cV,e];rfl) h
def cQ:jU→Int→Int→Option Bool
 | .eql,a,b=>some (a==b)
 | .neq,a,b=>some (a != b)
 | .lss,a,b=>some (decide (a<b))
 | .leq,a,b=>some (decide (a≤b))
 | .gtr,a,b=>some (decide (a>b))
 | .geq,a,b=>some (decide (a≥b))
 | _,_,_=>none
theorem K4 {o:jU}{t:aS}{k:j7}{a b:Int}{c:Bool}(hc:cQ o a b=some c){x y:cR}:((do eqGuard o t x y (.int k a) (.int k b);binOp o t (.int k a) (.int k b)):Sem aF).run P w= .ok (.bool c) w:=by
 cases o <;> simp only [cQ,f7,reduceCtorEq] at hc <;> subst hc <;> simp [eqGuard,binOp,Op.intCmp]
theorem fP (hw:dD ops l gd=some true){o:jU}{t:aS}{x y:cR}{k:j7}{a b:Int}(hx:cB l x=some (.int k a))(hy:cB l y=some (.int k b))(c:Bool)(h:wl P ops Q n rest ((d,.bool c)::l) w)(hc:cQ o a b=some c:=by decide)(hn:d<n:=by decide):wl P ops Q n (⟨some d,.binOp o t x y t',ty,pos,af,gd⟩::rest) l w:=
 gO hw hn (fun a' f=>by
  have e:((do eqGuard o t x y (a'.eval x) (a'.eval y);binOp o t (a'.eval x) (a'.eval y)):Sem aF).run P w= .ok (.bool c) w:=by
   rw [f.ev hx,f.ev hy];exact K4 hc
  show ((((do eqGuard o t x y (a'.eval x) (a'.eval y);binOp o t (a'.eval x) (a'.eval y)):Sem aF)>>=fun r=>pure (iE r)):Sem gS).run P w=_
  rw [cV,e];rfl) h
def eY:jU→j7→Int→Int→Option Int
 | .add,k,a,b=>some (k.wrap (a+b))
 | .sub,k,a,b=>some (k.wrap (a-b))
 | .mul,k,a,b=>some (k.wrap (a*b))
 | .quo,k,a,b=>if b=0 then none else some (k.wrap (a.tdiv b))
 | .rem,_,a,b=>if b=0 then none else some (a.tmod b)
 | _,_,_,_=>none
theorem E2 {o:jU}{t:aS}{k:j7}{a b c:Int}(hc:eY o k a b=some c){x y:cR}:((do eqGuard o t x y (.int k a) (.int k b);binOp o t (.int k a) (.int k b)):Sem aF).run P w= .ok (.int k c) w:=by
 cases o <;> simp only [eY,f7,reduceCtorEq] at hc
 case add=>subst hc;simp [eqGuard,binOp,GZ]
 case sub=>subst hc;simp [eqGuard,binOp,GZ]
 case mul=>subst hc;simp [eqGuard,binOp,GZ]
 case quo=>
  by_cases hb:b=0
  ·rw [if_pos hb] at hc;cases hc
  ·rw [if_neg hb] at hc;cases hc;simp [eqGuard,binOp,yU,hb]
 case rem=>
  by_cases hb:b=0
  ·rw [if_pos hb] at hc;cases hc
  ·rw [if_neg hb] at hc;cases hc;simp [eqGuard,binOp,yU,hb]
theorem eC (hw:dD ops l gd=some true){o:jU}{t:aS}{x y:cR}{k:j7}{a b:Int}(hx:cB l x=some (.int k a))(hy:cB l y=some (.int k b))(c:Int)(hc:eY o k a b=some c)(h:wl P ops Q n rest ((d,.int k c)::l) w)(hn:d<n:=by decide):wl P ops Q n (⟨some d,.binOp o t x y t',ty,pos,af,gd⟩::rest) l w:=
 gO hw hn (fun a' f=>by
  have e:((do eqGuard o t x y (a'.eval x) (a'.eval y);binOp o t (a'.eval x) (a'.eval y)):Sem aF).run P w= .ok (.int k c) w:=by
   rw [f.ev hx,f.ev hy];exact E2 hc
  show ((((do eqGuard o t x y (a'.eval x) (a'.eval y);binOp o t (a'.eval x) (a'.eval y)):Sem aF)>>=fun r=>pure (iE r)):Sem gS).run P w=_
  rw [cV,e];rfl) h
structure NewBk (w w':a6)(g:Nat)(t:aS)(vs:List aF):Prop where
 at_:w.heap.size=g
 size:w'.heap.size=g+1
 bk:Bk w' g t vs
 ext:Ext w w'
theorem NewBk.mk' (w:a6)(t:aS)(vs:List aF):NewBk w (w.alloc (.cells vs.toArray t)) w.heap.size t vs:=⟨rfl,by simp,Bk.new w t vs,(Ext.refl w).alloc _⟩
theorem E0 {t:aS}(hv:v.cells=vs.toArray):(newVar t v).run P w= .ok ⟨w.heap.size,0,none⟩ (w.alloc (.cells vs.toArray t)):=by
 unfold newVar newRow newObj;rw [hv];rfl
theorem nQ {x:cR}{t:aS}(hw:dD ops l gd=some true)(hx:cB l x=some v)(hv:v.cells=vs.toArray)(h:∀g w',NewBk w w' g t vs→wl P ops Q n rest ((d,i5 g 0)::l) w')(hn:d<n:=by decide):wl P ops Q n (⟨some d,.box t x,ty,pos,af,gd⟩::rest) l w:=
 gO hw hn (fun a f=>by
  have e:(Instr.box t (a.eval x)).run P w= .ok (i5 w.heap.size 0) (w.alloc (.cells vs.toArray t)):=by
   rw [f.ev hx]
   show ((newVar t v>>=fun r=>pure (yT (some r)):Sem aF)).run P w=_
   rw [cV,E0 hv];rfl
  show ((Instr.box t (a.eval x)>>=fun r=>pure (iE r):Sem gS)).run P w=_
  rw [cV,e];rfl) (h _ _ (NewBk.mk' w t vs))
theorem iL {t:aS}{z:aF}(hw:dD ops l gd=some true)(hz:∀w,(zeroValue t).run P w= .ok z w)(hv:z.cells=vs.toArray)(h:∀g w',NewBk w w' g t vs→wl P ops Q n rest ((d,i5 g 0)::l) w')(hn:d<n:=by decide):wl P ops Q n (⟨some d,.alloc t,ty,pos,af,gd⟩::rest) l w:=
 gO hw hn (fun a _=>by
  have e:(CV t true (.tuple #[])).run P w= .ok (i5 w.heap.size 0) (w.alloc (.cells vs.toArray t)):=by
   show ((zeroValue t>>=fun z=>(newVar t z>>=fun r=>pure (yT (some r))):Sem aF)).run P w=_
   rw [cV,hz w]
   show ((newVar t z>>=fun r=>pure (yT (some r)):Sem aF)).run P w=_
   rw [cV,E0 hv];rfl
  show ((CV t true (.tuple #[])>>=fun r=>pure (iE r):Sem gS)).run P w=_
  rw [cV,e];rfl) (h _ _ (NewBk.mk' w t vs))
def GS (p:aF→Prop):eF→Prop
 | .returned v=>p v
 | _=>False
theorem dO {p:aF→Prop}(h:p v):GS p (.returned v):=h
theorem IC {xs:Array cR}{R:eF→a6→Prop}(hw:dD ops l gd=some true)(hk:kL l (.call {callee:= .value (.func f),args:=xs,argTypes:=ts})=true)(hr:(execOp (rho l) ⟨some d,.call {callee:= .value (.func f),args:=xs,argTypes:=ts},ty,pos,af,gd⟩).run P w= .ok (.enter f vs.toArray) w)(hn:d<n)(hc:aQ P f vs.toArray w R)(h:∀e w',R e w'→GS (fun v=>wl P ops Q n rest ((d,v)::l) w') e):wl P ops Q n (⟨some d,.call {callee:= .value (.func f),args:=xs,argTypes:=ts},ty,pos,af,gd⟩::rest) l w:=fun a o=>by
 refine D4 hw o fun K F=>?_
 unfold pA
 rw [tX hk o,hr]
 refine hc.mono fun e w' E=>?_
 have:=h e w' E
 cases e with
 | returned v=>exact F _ _ (this _ (o.put hn v))
 | panicked c=>exact this.elim
 | outgrown=>exact this.elim
end ops
end
def NP (Q:dX→Act→a6→Prop):dX→Act→a6→Prop
 | .panic _,_,_=>False
 | e,a,w=>Q e a w
theorem NP.imp {Q:dX→Act→a6→Prop}:∀e a w,NP Q e a w→Q e a w:=fun e a w h=>by
 cases e <;> first | exact h | exact h.elim
theorem dM {Q:dX→Act→a6→Prop}{l:Fr}(h:eo Q .normal n l w):eo (NP Q) .normal n l w:=h
def kM (Rs:List (aF→a6→Prop))(i:Nat):aF→a6→Prop:=(Rs[i]?).getD fun _ _=>True
def iY (a:Act):Option Tmp→aF
 | some d=>a.tmps.getD d undef
 | none=>undef
def oR (d:Option Tmp)(v:aF)(l:Fr):Fr:=
 match d with
 | some d=>(d,v)::l
 | none=>l
def dB (ol:List bE)(j:Nat):Option Tmp:=(ol[j]?).bind (·.dst)
def BE (o:bE)(j:Nat):Bool:=o.after.toList.any fun e=>kN .any e&&e.on==j
theorem a0E (h:BE o j=true):∃e∈o.after,kN .any e=true∧e.on=j:=by
 simp only [BE,CS,fB,beq_iff_eq] at h;obtain⟨e,he,h1,h2⟩:=h;exact⟨e,by simpa using he,h1,h2⟩
def Deps (ol:List bE)(Rs:List (aF→a6→Prop))(w0 w1:a6)(k:Fr→Prop):List Nat→Fr→Prop
 | [],acc=>k acc
 | j::ds,acc=>∀v wj,kM Rs j v wj→Ext w0 wj→Ext wj w1→Deps ol Rs w0 w1 k ds (oR (dB ol j) v acc)
theorem aC {Rs:List (aF→a6→Prop)}{k:Fr→Prop}{acc:Fr}(h:k acc):Deps ol Rs w0 w1 k [] acc:=h
theorem PF {Rs:List (aF→a6→Prop)}{k:Fr→Prop}{acc:Fr}{R:aF→a6→Prop}(hR:Rs[j]?=some R)(hd:dB ol j=some d)(h:∀v wj,R v wj→Ext w0 wj→Ext wj w1→Deps ol Rs w0 w1 k ds ((d,v)::acc)):Deps ol Rs w0 w1 k (j::ds) acc:=by
 intro v wj hr e e';have f:kM Rs j=R:=by unfold kM;rw [hR];rfl
 have o:oR (dB ol j) v acc=(d,v)::acc:=by rw [hd];rfl
 rw [f] at hr;rw [o];exact h v wj hr e e'
def lI (w1:a6)(d:Option Tmp)(R:aF→a6→Prop):dX→Act→a6→Prop
 | .normal,a,w=>Ext w1 w∧R (iY a d) w∧a.defers= []
 | _,_,_=>False
theorem bQ {l:Fr}{R:aF→a6→Prop}(hv:look l d=some v)(hx:Ext w1 w)(hR:R v w):wl P ops (lI w1 (some d) R) n [] l w:=
 cF fun a f=>⟨hx,by show R (a.tmps.getD d undef) w;rw [f.val d v hv];exact hR,f.nod⟩
def iZ (v:aF)(g:Nat):Prop:=v= i5 g 0∨∃s p n c,v= .agg #[.bool s,up (some p) n c]∧p.block=g
def sJ (w:a6)(v:aF):Prop:=∀g,iZ v g→w.heap.size≤g
def CE (w:a6)(v:aF):Prop:=∀g,iZ v g→g<w.heap.size
def NewVr (w:a6)(v:aF):Prop:=∃g,v= i5 g 0∧w.heap.size≤g
theorem NX (h:iZ (i5 g 0) k):k=g:=by
 rcases h with h | ⟨_,_,_,_,h,_⟩
 ·cases h;rfl
 cases h
def yO (Rs:List (aF→a6→Prop)):List Nat→Prop
 | []=>True
 | i::r=>(∀v w,kM Rs i v w→CE w v)∧yO Rs r
theorem LT {Rs:List (aF→a6→Prop)}:∀{al:List Nat},yO Rs al→∀i∈al,∀v w,kM Rs i v w→CE w v
 | [],_,i,h=>by cases h
 | j::r,h,i,hi=>by
  rcases qA.1 hi with e | e
  ·subst e;exact h.1
  ·exact LT h.2 i e
def yR (ol:List bE)(al:List Nat)(acc:Fr):Prop:=∀i∈al,∀j∈al,i≠j→∀di dj,dB ol i=some di→dB ol j=some dj→∀u v,look acc di=some u→look acc dj=some v→∀g,iZ u g→iZ v g→False
def yE (k:Nat):aF→aF
 | .tuple vs=>(vs[k]?).getD undef
 | _=>undef
def GV (ol:List bE)(m:Nat)(fl:List Nat)(dss:List (List Nat))(lk:List (Nat×Nat×Nat)):Prop:=
 ∀e∈lk,e.1<m∧e.1∈fl∧e.2.1<m∧e.2.1∈(dss[e.1]?).getD []∧∃o t,ol[e.1]?=some o∧o.op= .extract (.tmp t) e.2.2∧dB ol e.2.1=some t
def GW (ol:List bE)(lk:List (Nat×Nat×Nat))(acc:Fr):Prop:=∀e∈lk,∀di dj,dB ol e.1=some di→dB ol e.2.1=some dj→∀u v,look acc di=some u→look acc dj=some v→u=yE e.2.2 v
theorem a12 {t:Tmp}(ho:o.op= .extract (.tmp t) k)(h:(execOp a.eval o).run P w= .ok (.value v) w):v=yE k (a.tmps.getD t undef):=by
 have e:a.eval (.tmp t)=a.tmps.getD t undef:=rfl;unfold execOp at h;rw [ho] at h;simp only [e] at h;generalize a.tmps.getD t undef=x at h;cases x with
 | tuple vs=>
  simp only [Instr.extract] at h
  cases hv:vs[k]? with
  | none=>rw [hv] at h;cases h
  | some u=>
   rw [hv] at h
   simp only [yE,hv,nM]
   cases h
   rfl
 | _=>cases h
section
variable (P:cO) (n:Nat) (ol:List bE) (m:Nat) (fl al:List Nat) (Rs:List (aF→a6→Prop)) (l:Fr) (w0:a6)
def wD (i:Nat)(o:bE)(ds:List Nat):Prop:=
 ∀w1,Ext w0 w1→Deps ol Rs w0 w1 (fun acc=>wl P ol.toArray (lI w1 o.dst (fun v w=>kM Rs i v w∧(al.contains i=true→sJ w1 v))) n [o] acc w1) ds l
def CH (i:Nat)(o:bE)(ds:List Nat):Prop:=
 ∀w1,Ext w0 w1→Deps ol Rs w0 w1 (fun acc=>∃v,kL acc o.op=true∧dD ol.toArray acc o.guard=some true∧(∀w,(execOp (rho acc) o).run P w= .ok (.value v) w)∧kM Rs i v w1) ds l
def lR:List (List Nat)→Nat→Prop
 | [],_=>True
 | ds::dss,i=>(match ol[i]? with | some o=>if fl.contains i then CH P ol Rs l w0 i o ds else wD P n ol al Rs l w0 i o ds | none=>True)∧lR dss (i+1)
end
def dL (rl:List (List Nat))(i:Nat):List Nat:=(rl[i]?).getD []
def vV (n : Nat)(ol : List bE)(m : Nat)(fl : List Nat)(l : Fr)(dss rl : List (List Nat)): Bool :=
  decide (m ≤ ol.length) && dss.length == m && fl.all (fun i => decide (i < m)) &&
  (ol.zipIdx.all fun (o, i) => AY o.op && (o.after.toList.all fun e => !Region.binds .any e || decide (e.on < i)) && ((dL rl i).all fun j => o.after.toList.any fun e => kN .any e && (e.on == j || (dL rl e.on).contains j)) &&
    (if i < m then
      (match o.dst with
       | some d => decide (d < n) && l.all (fun p => p.1 != d) && ol.zipIdx.all (fun (o', j) => j == i || decide (m ≤ j) || o'.dst != some d)
       | none => false) &&
      ((dss[i]?).getD []).all (fun j => (dL rl i).contains j) &&
      (!fl.contains i || ol.zipIdx.all (fun (o', j) => j == i || (dL rl i).contains j || BE o' i || o.apart ol.toArray o'))
     else (eI i).all (fun j => fl.contains j || (dL rl i).contains j)))
structure DrawOk (n:Nat)(ol:List bE)(m:Nat)(fl:List Nat)(l:Fr)(dss rl:List (List Nat)):Prop where
 mle:m≤ol.length
 dlen:dss.length=m
 flt:∀i∈fl,i<m
 sel:∀(i:Nat) (o:bE),ol[i]?=some o→AY o.op=true
 back:∀(i:Nat) (o:bE),ol[i]?=some o→∀e∈o.after,kN .any e=true→e.on<i
 dst:∀(i:Nat) (o:bE),ol[i]?=some o→i<m→∃d,o.dst=some d∧d<n∧(∀p∈l,p.1≠d)∧∀(j:Nat) (o':bE),ol[j]?=some o'→j≠i→j<m→o'.dst≠some d
 reach:∀(i:Nat) (o:bE),ol[i]?=some o→∀j∈dL rl i,∃e∈o.after,kN .any e=true∧(e.on=j∨j∈dL rl e.on)
 deps:∀(i:Nat) (o:bE),ol[i]?=some o→i<m→∀j∈(dss[i]?).getD [],j∈dL rl i
 free:∀(i:Nat) (o:bE),ol[i]?=some o→i∈fl→∀(j:Nat) (o':bE),ol[j]?=some o'→j≠i→j ∉ dL rl i→BE o' i=true∨o.apart ol.toArray o'=true
 tail:∀(i:Nat) (o:bE),ol[i]?=some o→m≤i→∀j,j<i→j∈fl∨j∈dL rl i
theorem u4 {α:Type}{l:List α}{p:α×Nat→Bool}(h:l.zipIdx.all p=true)(i:Nat)(x:α)(hx:l[i]?=some x):p (x,i)=true:=by
 rw [gK] at h;exact h (x,i) (by rw [List.mem_zipIdx_iff_getElem?];simpa using hx)
theorem a2a {l:Fr}{rl:List (List Nat)}(h:vV n ol m fl l dss rl=true):DrawOk n ol m fl l dss rl:=by
 simp only [vV,fB,decide_eq_true_eq,beq_iff_eq] at h;obtain⟨⟨⟨h1,h2⟩,I⟩,V⟩:=h;have key:=fun (i:Nat) (o:bE) (E:ol[i]?=some o)=>u4 V i o E;simp only [fB] at key;refine⟨h1,h2,fun i hi=>by rw [gK] at I;simpa using I i hi,fun i o E=>(key i o E).1.1.1,fun i o E e he hb=>?_,fun i o E hi=>?_,fun i o E j H=>?_,fun i o E hi j H=>?_,fun i o E hi j o' ho' F M=>?_,fun i o E hi j H=>?_⟩
 ·have:=(key i o E).1.1.2;rw [gK] at this;have:=this e (by simpa using he);simpa [hb] using this
 ·have:=(key i o E).2;rw [if_pos hi] at this;simp only [fB] at this;obtain⟨⟨f,_⟩,_⟩:=this;cases hd:o.dst with
  | none=>rw [hd] at f;cases f
  | some d=>
   rw [hd] at f
   simp only [fB,decide_eq_true_eq] at f
   obtain⟨⟨G,U⟩,W⟩:=f
   refine⟨d,rfl,G,fun p X=>?_,fun j o' ho' F _ e=>?_⟩
   ·rw [gK] at U
    simpa using U p X
   ·have:=u4 W j o' ho'
    simp only [pH,beq_iff_eq,decide_eq_true_eq,bne_iff_ne] at this
    rcases this with (h | h) | h
    ·exact F h
    ·omega
    ·exact h e
 ·have f:=(key i o E).1.2;rw [gK] at f;have:=f j H;rw [CS] at this;obtain⟨e,he,G⟩:=this;simp only [fB,pH,beq_iff_eq,lL] at G;exact⟨e,by simpa using he,G.1,G.2⟩
 ·have:=(key i o E).2;rw [if_pos hi] at this;simp only [fB] at this;have f:=this.1.2;rw [gK] at f;simpa using f j H
 ·have L:i<m:=by rw [gK] at I;simpa using I i hi
  have:=(key i o E).2;rw [if_pos L] at this;simp only [fB,pH,CW] at this;rcases this.2 with f | f
  ·simp [hi] at f
  have:=u4 f j o' ho';simp only [pH,beq_iff_eq,lL] at this;rcases this with ((h | h) | h) | h
  ·exact absurd h F
  ·exact absurd h M
  ·exact cJ h
  exact cN h
 have:=(key i o E).2;rw [if_neg i9,gK] at this;have:=this j (by simpa using H);simpa using this
section
variable {P:cO}{Q:dX→Act→a6→Prop}{n:Nat}{ol:List bE}{m:Nat}{fl al:List Nat}{Rs:List (aF→a6→Prop)}{l:Fr}{w0:a6}{dss rl:List (List Nat)}
def yQ (ol:List bE)(Rs:List (aF→a6→Prop))(w0:a6)(i:Nat)(a:Act)(w:a6):Prop:=∃w1,Ext w0 w1∧Ext w1 w∧kM Rs i (iY a (dB ol i)) w1
theorem Deps.weak {w1:a6}{k k':Fr→Prop}(hi:∀acc,k acc→k' acc):∀(ds:List Nat) (acc:Fr),Deps ol Rs w0 w1 k ds acc→Deps ol Rs w0 w1 k' ds acc
 | [],acc,h=>hi acc h
 | _::ds,_,h=>fun v wj h1 h2 h3=>Deps.weak hi ds _ (h v wj h1 h2 h3)
theorem Rp.cons {acc:Fr}(h:Rp n acc a)(hv:a.tmps.getD d undef=v):Rp n ((d,v)::acc) a:=
 ⟨h.size,h.nod,fun i u hi=>by
  simp only [look] at hi
  cases hb:q8 d i with
  | true=>
   rw [hb] at hi
   have e:=sQ hb
   subst e
   cases hi
   exact hv
  | false=>rw [hb] at hi;exact h.val i u hi⟩
theorem Deps.apply {w1:a6}{k:Fr→Prop}{a:Act}:∀(ds:List Nat) (acc:Fr),(∀j∈ds,yQ ol Rs w0 j a w1)→Deps ol Rs w0 w1 k ds acc→Rp n acc a→∃acc',Rp n acc' a∧k acc'
 | [],acc,_,h,hr=>⟨acc,hr,h⟩
 | j::ds,acc,hf,h,hr=>by
  obtain⟨wj,e1,e2,hR⟩:=hf j ym
  refine Deps.apply ds _ (fun i hi=>hf i (by simp [hi])) (h _ wj hR e1 e2) ?_
  cases hd:dB ol j with
  | none=>exact hr
  | some d=>exact hr.cons rfl
theorem EN:∀{dss:List (List Nat)}{k:Nat},lR P n ol fl al Rs l w0 dss k→∀(i:Nat) (o:bE),ol[k+i]?=some o→i<dss.length→
  (if fl.contains (k+i) then CH P ol Rs l w0 (k+i) o ((dss[i]?).getD []) else wD P n ol al Rs l w0 (k+i) o ((dss[i]?).getD []))
 | [],_,_,i,_,_,hi=>by simp at hi
 | ds::dss,k,h,0,o,ho,_=>by
  have:=h.1
  rw [show ol[k]?=some o from ho] at this
  simpa using this
 | ds::dss,k,h,i+1,o,ho,hi=>by
  have e:k+(i+1)=k+1+i:=by omega
  have:=EN h.2 i o (by rw [←e];exact ho) (by simpa using hi)
  rw [e]
  simpa using this
theorem D2 {K K2:Act→a6→Prop}{Q1 Q2:dX→Act→a6→Prop}(h:o.wp P a w K Q1)(hp:∀c a w,¬Q1 (.panic c) a w)(hl:¬LetsOut Q1)(hd:∀a w,K a w→a.defers= [])(hk:∀v w',K (a.put o.dst v) w'→K2 (a.put o.dst v) w'):o.wp P a w K2 Q2:=by
 unfold pA at*;generalize (execOp a.eval o).run P w=r at*;cases r with
 | ok x w'=>
  cases x <;> simp only [nN] at h⊢ <;> first | exact h.elim | skip
  case value v=>exact hk _ _ h
  case skip=>exact hk _ _ h
  case defer d=>
   have:=hd _ _ h
   exfalso
   revert this
   cases o.dst <;> simp [qC]
  case enter f args=>
   refine h.mono fun e w'' he=>?_
   cases e with
   | returned v=>exact hk _ _ he
   | panicked c=>exact (hp _ _ _ he).elim
   | outgrown=>exact (hl he).elim
  case row row args=>exact h.mono fun v w'' he=>hk _ _ he
 | _ x w'=>
  cases x <;> simp only [nN] at h⊢ <;> first | exact h.elim | exact (hp _ _ _ h).elim
theorem qU (ol:List bE)(i:Nat):ol.toArray[i]?=ol[i]?:=by simp
theorem mC:j∈uF .any ol.toArray listed↔
  listed.getD j true=false∧∃o,ol[j]?=some o∧∀e∈o.after,kN .any e=true→listed.getD e.on false=true:=by
 rw [mem_ready,qU]
theorem mG (h:j<listed.size:=by omega):listed.getD j true=listed.getD j false:=by simp [h]
theorem YT (h:DrawOk n ol m fl l dss rl)(j:Nat)(o:bE)(cs:Array SelectCase)(b:Bool)(ho:ol.toArray[j]?=some o):o.op≠ .select cs b:=by
 intro e;have:=h.sel j o (by rw [←qU];exact ho);rw [e] at this;cases this
def uP (N:Nat)(listed:Array Bool):Nat:=(eI N).countP fun i=> !listed.getD i false
theorem PO {p q:Nat→Bool}{i:Nat}:∀{L:List Nat},i∈L→(∀j,q j=true→p j=true)→p i=true→q i=false→L.countP q<L.countP p
 | [],h,_,_,_=>by cases h
 | j::L,h,hpq,hp,hq=>by
  have hle:L.countP q≤L.countP p:=List.countP_mono_left fun j _=>hpq j
  by_cases e:i=j
  ·subst e
   rw [CR,CR,hp,hq]
   simp;omega
  ·have hi:i∈L:=by
    rcases qA.1 h with h | h
    ·exact absurd h e
    ·exact h
   have:=PO hi hpq hp hq
   rw [CR,CR]
   cases hqj:q j with
   | true=>rw [hpq j hqj];simp;omega
   | false=>simp only [H9,if_false];omega
theorem oK (hi:i<N)(hs:listed.size=N)(h:listed.getD i false=false):uP N (listed.setIfInBounds i true)<uP N listed:=by
 refine PO (i:=i) (j5.2 hi) (fun j f=>?_) (by simp only [h];rfl) ?_
 ·by_cases e:i=j
  ·subst e;simp [hs,hi] at f
  rw [getD_set_ne false e] at f;exact f
 simp [hs,hi]
def Closed (ol:List bE)(listed:Array Bool):Prop:=∀(i:Nat) (o:bE),ol[i]?=some o→listed.getD i false=true→∀e∈o.after,kN .any e=true→listed.getD e.on false=true
theorem Closed.set (h:Closed ol listed)(ho:ol[i]?=some o)(hall:∀e∈o.after,kN .any e=true→listed.getD e.on false=true):Closed ol (listed.setIfInBounds i true):=by
 intro k ok f hl e he hb;refine getD_set_true ?_;by_cases E:i=k
 ·subst E;rw [ho] at f;cases f;exact hall e he hb
 rw [getD_set_ne false E] at hl;exact h k ok f hl e he hb
theorem Closed.reach (h:Closed ol listed)(hk:DrawOk n ol m fl l dss rl):∀(i:Nat) (o:bE),ol[i]?=some o→(∀e∈o.after,kN .any e=true→listed.getD e.on false=true)→∀j∈dL rl i,listed.getD j false=true:=by
 intro i
 induction i using uG with
 | ind i ih=>
  intro o ho hall j hj
  obtain⟨e,he,hb,h1⟩:=hk.reach i o ho j hj
  have hlt:=hk.back i o ho e he hb
  rcases h1 with h1 | h1
  ·rw [←h1];exact hall e he hb
  ·have hN:e.on<ol.length:=Nat.lt_trans hlt (gU.1 ho).1
   exact ih e.on hlt _ (cT hN) (h e.on _ (cT hN) (hall e he hb)) j h1
theorem J1 (hk:DrawOk n ol m fl l dss rl):∀(fuel k:Nat) (listed:Array Bool) (a:Act) (w:a6),m≤k→k≤ol.length→uP ol.length listed≤fuel→listed.size=ol.length→Closed ol listed→(∀i,i<ol.length→listed.getD i false=decide (i<k))→
  wpList P ol.toArray Q (ol.drop k) a w→wpAny P .any ol.toArray Q fuel listed a w:=by
 intro fuel
 induction fuel with
 | zero=>
  intro k listed a w hm hkl hf hs _ hl h
  have e:k=ol.length:=by
   rcases kQ k ol.length with h1 | h1
   ·have h2:listed.getD k false=false:=by rw [hl k h1];simp
    have:=oK h1 hs h2;omega
   ·omega
  subst e
  rw [List.drop_length] at h
  refine wpAny_done ?_ h 0
  refine CQ.2 fun j hj=>?_
  obtain⟨h1,o,ho,_⟩:=mC.1 hj
  have hjl:j<ol.length:=(gU.1 ho).1
  rw [mG,hl j hjl] at h1
  simp [hjl] at h1
 | succ fuel ih=>
  intro k listed a w hm hkl hf hs hcl hl h
  rcases kQ k ol.length with hlt | hge
  ·obtain⟨o,ho⟩:∃o,ol[k]?=some o:=⟨_,cT hlt⟩
   have hrdy:k∈uF .any ol.toArray listed:=by
    refine mC.2 ⟨?_,o,ho,fun e he hb=>?_⟩
    ·rw [mG,hl k hlt];simp
    ·have:=hk.back k o ho e he hb
     rw [hl e.on i9];simpa using this
   refine⟨fun h0=>(by rw [h0] at hrdy;cases hrdy),fun i hi=>?_⟩
   obtain⟨h1,o',ho',hall⟩:=mC.1 hi
   have hil:i<ol.length:=(gU.1 ho').1
   rw [mG,hl i hil] at h1
   have hik:k≤i:=by simpa using h1
   have hie:i=k:=by
    rcases kQ k i with h2 | h2
    ·rcases hk.tail i o' ho' i9 k h2 with h3 | h3
     ·have:=hk.flt k h3;omega
     ·have:=hcl.reach hk i o' ho' hall k h3
      rw [hl k hlt] at this
      simp at this
    ·omega
   subst hie
   have hd:ol.drop i=o::ol.drop (i+1):=by
    rw [pF hlt]
    congr 1
    rw [cT hlt] at ho
    exact kO ho
   rw [hd] at h
   have hw:wpOp P ol.toArray Q i (wpList P ol.toArray Q (ol.drop (i+1))) a w:=by
    unfold wpOp
    rw [qU,ho]
    unfold wpList at h
    exact h
   refine wpOp_mono (fun a' w' h'=>?_) hw
   refine ih (i+1) _ a' w' i9 i9 (by have:=oK hil hs (by rw [hl i hil];simp);omega) (by simpa using hs) (hcl.set ho (by rw [ho] at ho';cases ho';exact hall)) (fun j hj=>?_) h'
   by_cases hij:i=j
   ·subst hij
    simp [hs,hil]
   ·rw [getD_set_ne false hij,hl j hj]
    congr 1
    simp only [eq_iff_iff]
    omega
  ·have e:k=ol.length:=by omega
   subst e
   rw [List.drop_length] at h
   refine wpAny_done ?_ h _
   refine CQ.2 fun j hj=>?_
   obtain⟨h1,o,ho,_⟩:=mC.1 hj
   have hjl:j<ol.length:=(gU.1 ho).1
   rw [mG,hl j hjl] at h1
   simp [hjl] at h1
theorem Rp.put_far (h:Rp n l a)(hd:∀p∈l,p.1≠d)(v:aF):Rp n l (a.put (some d) v):=by
 refine⟨by simp [qC,h.size],by simp [qC,h.nod],fun i u hi=>?_⟩
 have hne:d≠i:=fun e=>by
  have key:∀(l:Fr),look l i=some u→∃p∈l,p.1=i:=by
   intro l
   induction l with
   | nil=>intro h;cases h
   | cons p r ih=>
    intro h
    obtain⟨j,x⟩:=p
    simp only [look] at h
    cases hb:q8 j i with
    | true=>exact⟨(j,x),by simp,sQ hb⟩
    | false=>
     rw [hb] at h
     obtain⟨p,hp,he⟩:=ih h
     exact⟨p,by simp [hp],he⟩
  obtain⟨p,hp,he⟩:=key l hi
  exact hd p hp (he.trans e.symm)
 have:=h.val i u hi;simp only [qC,sU] at this⊢;rwa [HA hne]
theorem t7 (hs:a.tmps.size=n)(hd:d<n)(v:aF):iY (a.put (some d) v) (some d)=v:=by
 simp [iY,qC,hs,hd]
theorem zV {e:Option Tmp}(h:e≠some d)(v:aF):iY (a.put (some d) v) e=iY a e:=by
 cases e with
 | none=>rfl
 | some e=>
  have f:d≠e:=fun he=>h (by rw [he])
  simp only [iY,qC,sU]
  rw [HA f]
theorem JA (hk:DrawOk n ol m fl l dss rl)(ho:ol[i]?=some o)(him:i<m)(hm:∀i,m≤i→i<ol.length→listed.getD i false=false)(hr:Rp n l a)(hfact:∀i,i<ol.length→listed.getD i false=true→yQ ol Rs w0 i a w)(hx:Ext w0 w)(e:Ext w w')(hR:kM Rs i v w'):Rp n l (a.put o.dst v)∧∀j,j<ol.length→(listed.setIfInBounds i true).getD j false=true→yQ ol Rs w0 j (a.put o.dst v) w':=by
 obtain⟨d,V,I,G,E⟩:=hk.dst i o ho him;rw [V];refine⟨hr.put_far G v,fun j M f=>?_⟩;by_cases F:i=j
 ·subst F;refine⟨w',hx.trans e,Ext.refl _,?_⟩;have U:dB ol i=some d:=by unfold dB;rw [ho];exact V
  rw [U,t7 hr.size I];exact hR
 rw [getD_set_ne false F] at f
 have L:j<m:=by
  rcases kQ j m with h | h
  ·exact h
  ·rw [hm j h M] at f;cases f
 obtain⟨w1,U,W,h1⟩:=hfact j M f;refine⟨w1,U,W.t e,?_⟩;rw [zV]
 ·exact h1
 obtain⟨oj,H⟩:∃oj,ol[j]?=some oj:=⟨_,cT M⟩;unfold dB;rw [H];exact E j oj H (mP F) L
theorem oO (hk:DrawOk n ol m fl l dss rl)(hoi:ol[i]?=some o)(him:i<m)(v:aF)(hne:i≠j)(hjm:j<m):iY (a.put o.dst v) (dB ol j)=iY a (dB ol j):=by
 obtain⟨d,E,_,_,h⟩:=hk.dst i o hoi him;rw [E];refine zV ?_ v;unfold dB;obtain⟨oj,f⟩:∃oj,ol[j]?=some oj:=⟨_,cT (by have:=hk.mle;omega)⟩;rw [f];exact h j oj f (mP hne) hjm
theorem PE {acc:Fr}(_hal:∀i∈al,i<m∧i ∉ fl)(hacc:Rp n acc a)(hdi:∀i∈al,∀j∈al,i≠j→listed.getD i false=true→listed.getD j false=true→∀g,iZ (iY a (dB ol i)) g→iZ (iY a (dB ol j)) g→False)(hl:∀i∈al,listed.getD i false=true):yR ol al acc:=by
 intro i hi j o f di dj hdi' hdj' u v h1 h2;have h:=hdi i hi j o f (hl i hi) (hl j o);rw [hdi',hdj'] at h;rw [←hacc.val di u h1,←hacc.val dj v h2];exact h
theorem NB {lk:List (Nat×Nat×Nat)}{acc:Fr}(hacc:Rp n acc a)(hli:∀e∈lk,iY a (dB ol e.1)=yE e.2.2 (iY a (dB ol e.2.1))):GW ol lk acc:=by
 intro e he di dj hi E u v f o;have h:=hli e he;rw [hi,E] at h;rw [←hacc.val di u f,←hacc.val dj v o];exact h
theorem a0D (hlk : GV ol m fl dss lk)(hk : DrawOk n ol m fl l dss rl)(hal : ∀ i ∈ al, i < m ∧ i ∉ fl)(hold : yO Rs al)(ho : lR P n ol fl al Rs l w0 dss 0)(hfin : ∀ w1, Ext w0 w1 → Deps ol Rs w0 w1 (fun acc => yR ol al acc → GW ol lk acc → wl P ol.toArray (NP Q) n (ol.drop m) acc w1) (eI m) l):∀ (fuel : Nat) (listed : Array Bool) (a : Act) (w : a6), uP ol.length listed ≤ fuel → listed.size = ol.length → Closed ol listed → (∀ i, m ≤ i → i < ol.length → listed.getD i false = false) → Rp n l a → Ext w0 w →
      (∀ i, i < ol.length → listed.getD i false = true → yQ ol Rs w0 i a w) → (∀ i ∈ al, ∀ j ∈ al, i ≠ j → listed.getD i false = true → listed.getD j false = true → ∀ g, iZ (iY a (dB ol i)) g → iZ (iY a (dB ol j)) g → False) → (∀ e ∈ lk, listed.getD e.1 false = true → iY a (dB ol e.1) = yE e.2.2 (iY a (dB ol e.2.1))) → wpAny P .any ol.toArray (NP Q) fuel listed a w := by
  intro fuel
  induction fuel with
  | zero =>
    intro listed a w hf hs hcl hm hr hx hfact hdi hli
    have hall : ∀ i, i < ol.length → listed.getD i false = true := by
      intro i hi
      cases h : listed.getD i false with
      | true => rfl
      | false => have := oK hi hs h; omega
    have hml : m = ol.length := by
      rcases kQ m ol.length with h | h
      · have h1 := hm m (aU _) h
        rw [hall m h] at h1; cases h1
      · have := hk.mle; omega
    obtain ⟨acc, hacc, hwl⟩ := Deps.apply (n := n) (eI m) l (fun j hj => hfact j (by have := j5.1 hj; omega) (hall j (by have := j5.1 hj; omega))) (hfin w hx) hr
    exact J1 hk 0 m listed a w (aU _) i9 hf hs hcl (fun i hi => by rw [hall i hi]; simp; omega) (hwl (PE hal hacc hdi (fun i hi => hall i (by have := (hal i hi).1; omega))) (NB hacc fun e he => hli e he (hall e.1 (by have := (hlk e he).1; omega))) a hacc)
  | succ fuel ih =>
    intro listed a w hf hs hcl hm hr hx hfact hdi hli
    by_cases hdone : ∀ i, i < m → listed.getD i false = true
    · obtain ⟨acc, hacc, hwl⟩ := Deps.apply (n := n) (eI m) l (fun j hj => hfact j (by have := j5.1 hj; have := hk.mle; omega) (hdone j (j5.1 hj))) (hfin w hx) hr
      exact J1 hk (fuel + 1) m listed a w (aU _) hk.mle hf hs hcl (fun i hi => by
        rcases kQ i m with h | h
        · rw [hdone i h]; simpa using h
        · rw [hm i h hi]; simp; omega) (hwl (PE hal hacc hdi (fun i hi => hdone i (hal i hi).1)) (NB hacc fun e he => hli e he (hdone e.1 (hlk e he).1)) a hacc)
    · -- the least that is not listed
      obtain ⟨j, hjm, hjl, hleast⟩ : ∃ j, j < m ∧ listed.getD j false = false ∧ ∀ i, i < j → listed.getD i false = true := by
        have key : ∀ k, (∃ j, j < m ∧ j < k ∧ listed.getD j false = false) → ∃ j, j < m ∧ listed.getD j false = false ∧ ∀ i, i < j → listed.getD i false = true := by
          intro k
          induction k with
          | zero => rintro ⟨j, _, h, _⟩; omega
          | succ k ihk =>
            rintro ⟨j, h1, h2, h3⟩
            by_cases hs' : ∃ j, j < m ∧ j < k ∧ listed.getD j false = false
            · exact ihk hs'
            · refine ⟨j, h1, h3, fun i hi => ?_⟩
              cases hb : listed.getD i false with
              | true => rfl
              | false => exact absurd ⟨i, by omega, by omega, hb⟩ hs'
        refine key m (Classical.byContradiction fun hno => hdone fun i hi => ?_)
        cases hb : listed.getD i false with
        | true => rfl
        | false => exact absurd ⟨i, hi, hi, hb⟩ hno
      have hml := hk.mle
      obtain ⟨oj, hoj⟩ : ∃ oj, ol[j]? = some oj := ⟨_, cT i9⟩
      have hjr : j ∈ uF .any ol.toArray listed := mC.2 ⟨by rw [mG]; exact hjl, oj, hoj, fun e he hb => hleast _ (hk.back j oj hoj e he hb)⟩
      have facts_of : ∀ (i : Nat) (o : bE), ol[i]? = some o → i < m → i ∈ uF .any ol.toArray listed → ∀ k ∈ (dss[i]?).getD [], yQ ol Rs w0 k a w := by
        intro i o hoi him hir k hkd
        have h1 := hk.deps i o hoi him k hkd
        obtain ⟨_, o', ho', hall⟩ := mC.1 hir
        rw [hoi] at ho'
        cases ho'
        have h2 := hcl.reach hk i o hoi hall k h1
        have h3 : k < listed.size := by
          rcases kQ k listed.size with h' | h'
          · exact h'
          · simp [Array.getElem?_eq_none h'] at h2
        exact hfact k i9 h2
      by_cases hfl : ∃ i ∈ fl, i ∈ uF .any ol.toArray listed
      · obtain ⟨i, hif, hir⟩ := hfl
        have him := hk.flt i hif
        obtain ⟨hun, o, hoi, hall⟩ := mC.1 hir
        have iG := EN (k := 0) ho i o (by simpa using hoi) (by rw [hk.dlen]; exact him)
        rw [eR, if_pos (by simpa using hif)] at iG
        obtain ⟨acc, hacc, v, hkn, hgd, hrun, hR⟩ := Deps.apply (n := n) _ l (facts_of i o hoi him hir) (iG w hx) hr
        have hy : Yields P ol.toArray o v a := cJ ⟨by obtain ⟨d, op, ty, pos, af, gd⟩ := o; exact D9 hgd hacc, fun w => by
          obtain ⟨d, op, ty, pos, af, gd⟩ := o
          rw [tX hkn hacc]; exact hrun w⟩
        have hex : (execOp a.eval o).run P w = .ok (.value v) w := by
          obtain ⟨d, op, ty, pos, af, gd⟩ := o
          rw [tX hkn hacc]; exact hrun w
        have hun' : listed.getD i false = false := by rw [← mG]; exact hun
        obtain ⟨h1, h2⟩ := JA hk hoi him hm hr hfact hx bN hR
        refine wpAny_first (by rw [qU]; exact hoi) (YT hk) (fun c a w h => h.elim) fuel listed a w (fun k ok hok hki hkun hno => ?_) hir hy ?_
        · have hnr : k ∉ dL rl i := fun hm => by
            have h1 := hcl.reach hk i o hoi hall k hm
            have h2 : k < ol.length := (gU.1 (show ol[k]? = some ok by rw [← qU]; exact hok)).1
            rw [mG, h1] at hkun; cases hkun
          rcases hk.free i o hoi hif k ok (by rw [← qU]; exact hok) hki hnr with h | h
          · obtain ⟨e, he, hb, heq⟩ := a0E h
            exact absurd heq (hno e he hb)
          · exact h
        · refine ih _ _ w (by have := oK i9 hs hun'; omega) (by simpa using hs) (hcl.set hoi hall) (fun k hmk hk' => ?_) h1 hx h2 (fun i' hi' j' hj' hne hli hlj => ?_) (fun e he hl => ?_)
          · rw [getD_set_ne false i9]; exact hm k hmk hk'
          · have e1 : i ≠ i' := fun e => (hal i' hi').2 (e ▸ hif)
            have e2 : i ≠ j' := fun e => (hal j' hj').2 (e ▸ hif)
            rw [getD_set_ne false e1] at hli
            rw [getD_set_ne false e2] at hlj
            rw [oO hk hoi him v e1 (hal i' hi').1, oO hk hoi him v e2 (hal j' hj').1]
            exact hdi i' hi' j' hj' hne hli hlj
          · obtain ⟨k1, k2, k3, k4, o', t, k5, k6, k7⟩ := hlk e he
            have dep_ne : listed.getD e.2.1 false = true → i ≠ e.2.1 := fun h e' => by rw [← e', hun'] at h; cases h
            by_cases hie : i = e.1
            · have hdl : listed.getD e.2.1 false = true := hcl.reach hk i o hoi hall _ (by have := hk.deps i o hoi him e.2.1 (by rw [hie]; exact k4); exact this)
              rw [oO hk hoi him v (dep_ne hdl) k3]
              obtain ⟨d, hd, hdn, _⟩ := hk.dst i o hoi him
              have e1 : dB ol e.1 = some d := by rw [← hie]; unfold dB; rw [hoi]; exact hd
              rw [e1, hd, t7 hr.size hdn, k7]
              have e2 : o' = o := by rw [← hie, hoi] at k5; exact (kO k5).symm
              exact a12 (o := o) (by rw [← e2]; exact k6) hex
            · rw [getD_set_ne false hie] at hl
              have hdl : listed.getD e.2.1 false = true := hcl.reach hk e.1 o' k5 (fun x hx hb => hcl e.1 o' k5 hl x hx hb) _ (hk.deps e.1 o' k5 k1 e.2.1 k4)
              rw [oO hk hoi him v hie k1, oO hk hoi him v (dep_ne hdl) k3]
              exact hli e he hl
      · have hjf : j ∉ fl := fun h => hfl ⟨j, h, hjr⟩
        refine ⟨fun h0 => (by rw [h0] at hjr; cases hjr), fun i hir => ?_⟩
        obtain ⟨hun, o, hoi, hall⟩ := mC.1 hir
        have hil : i < ol.length := (gU.1 hoi).1
        have him : i < m := by
          rcases kQ i m with h | h
          · exact h
          · rcases hk.tail i o hoi h j i9 with h1 | h1
            · exact absurd h1 hjf
            · have := hcl.reach hk i o hoi hall j h1
              rw [hjl] at this; cases this
        have hif : i ∉ fl := fun h => hfl ⟨i, h, hir⟩
        have hun' : listed.getD i false = false := by rw [← mG]; exact hun
        have iG := EN (k := 0) ho i o (by simpa using hoi) (by rw [hk.dlen]; exact him)
        rw [eR, if_neg (by simpa using hif)] at iG
        obtain ⟨acc, hacc, hwl⟩ := Deps.apply (n := n) _ l (facts_of i o hoi him hir) (iG w hx) hr
        have hl := hwl a hacc
        have next : ∀ v w', lI w o.dst (fun v w' => kM Rs i v w' ∧ (al.contains i = true → sJ w v)) .normal (a.put o.dst v) w' → wpAny P .any ol.toArray (NP Q) fuel (listed.setIfInBounds i true) (a.put o.dst v) w' := by
          intro v w' hpi
          obtain ⟨e, hR, _⟩ := hpi
          have hv : kM Rs i v w' ∧ (al.contains i = true → sJ w v) := by
            obtain ⟨d, hd, hdn, _⟩ := hk.dst i o hoi him
            rw [hd, t7 hr.size hdn] at hR
            exact hR
          obtain ⟨h1, h2⟩ := JA hk hoi him hm hr hfact hx e hv.1
          have hself : iY (a.put o.dst v) (dB ol i) = v := by
            obtain ⟨d, hd, hdn, _⟩ := hk.dst i o hoi him
            have e1 : dB ol i = some d := by unfold dB; rw [hoi]; exact hd
            rw [e1, hd, t7 hr.size hdn]
          have fresh : ∀ j ∈ al, j ≠ i → listed.getD j false = true → al.contains i = true → ∀ g, iZ (iY a (dB ol j)) g → iZ v g → False := by
            intro j hj hji hlj hci g hg hg'
            obtain ⟨wj, _, f2, hRj⟩ := hfact j (by have := (hal j hj).1; omega) hlj
            have hlt := LT hold j hj _ _ hRj g hg
            have hge := hv.2 hci g hg'
            have := f2.size
            omega
          refine ih _ _ w' (by have := oK hil hs hun'; omega) (by simpa using hs) (hcl.set hoi hall) (fun k hmk hk' => ?_) h1 (hx.trans e) h2 (fun i' hi' j' hj' hne hli hlj => ?_) (fun e he hl => ?_)
          · rw [getD_set_ne false i9]; exact hm k hmk hk'
          · by_cases e1 : i = i'
            · subst e1
              rw [getD_set_ne false hne] at hlj
              rw [hself, oO hk hoi him v hne (hal j' hj').1]
              exact fun g h h' => fresh j' hj' (mP hne) hlj (by simpa using hi') g h' h
            · rw [getD_set_ne false e1] at hli
              by_cases e2 : i = j'
              · subst e2
                rw [hself, oO hk hoi him v e1 (hal i' hi').1]
                exact fresh i' hi' (mP e1) hli (by simpa using hj')
              · rw [getD_set_ne false e2] at hlj
                rw [oO hk hoi him v e1 (hal i' hi').1, oO hk hoi him v e2 (hal j' hj').1]
                exact hdi i' hi' j' hj' hne hli hlj
          · obtain ⟨k1, k2, k3, k4, o', t, k5, k6, k7⟩ := hlk e he
            have hie : i ≠ e.1 := fun e' => hif (e' ▸ k2)
            rw [getD_set_ne false hie] at hl
            have hdl : listed.getD e.2.1 false = true := hcl.reach hk e.1 o' k5 (fun x hx hb => hcl e.1 o' k5 hl x hx hb) _ (hk.deps e.1 o' k5 k1 e.2.1 k4)
            rw [oO hk hoi him v hie k1, oO hk hoi him v (fun e' => by rw [← e', hun'] at hdl; cases hdl) k3]
            exact hli e he hl
        have nolets : ¬ LetsOut (lI w o.dst (fun v w' => kM Rs i v w' ∧ (al.contains i = true → sJ w v))) := fun ⟨_, _, h⟩ => h
        unfold wpOp
        rw [qU, hoi]
        unfold wpList at hl
        simp only at hl ⊢
        split at hl
        · rename_i hw
          rw [if_pos hw]
          rcases hl with hl | hl
          · exact cJ (D2 hl (fun _ _ _ h => h) nolets (fun a w h => h.2.2) (fun v w' h => next v w' h))
          · exact absurd hl.2 nolets
        · rename_i hw
          rw [if_neg hw]
          exact next _ _ hl
theorem a2D (hmix:P.follows .mixedOrders=true)(m:Nat)(fl al:List Nat)(lk:List (Nat×Nat×Nat))(Rs:List (aF→a6→Prop))(dss:List (List Nat))(rl:List (List Nat))(hk:vV n ol m fl l dss rl=true)(hal:al.all (fun i=>decide (i<m)&& !fl.contains i)=true)(hold:yO Rs al)(hlk:GV ol m fl dss lk)(ho:lR P n ol fl al Rs l w dss 0)(hfin:∀w1,Ext w w1→Deps ol Rs w w1 (fun acc=>yR ol al acc→GW ol lk acc→wl P ol.toArray (NP Q) n (ol.drop m) acc w1) (eI m) l):cw P Q n (.region id ol.toArray true) l w:=fun a F=>by
 refine H7 NP.imp (wp_region_any hmix ?_)
 have E:(uN ol.toArray.size false).size=ol.length:=by simp
 have f:∀i,(uN ol.toArray.size false).getD i false=false:=by
  intro i
  simp only [sU,Array.getElem?_replicate]
  split <;> rfl
 have hal':∀i∈al,i<m∧i ∉ fl:=by
  intro i hi
  rw [gK] at hal
  simpa using hal i hi
 refine a0D hlk (a2a hk) hal' hold ho hfin ol.toArray.size _ a _ ?_ E (fun i o ho h=>by rw [f i] at h;cases h) (fun i _ hi=>f i) F (Ext.refl w).drew (fun i hi h=>by rw [f i] at h;cases h) (fun i _ j _ _ h=>by rw [f i] at h;cases h) (fun e _ h=>by rw [f e.1] at h;cases h)
 refine a8 List.countP_le_length ?_
 simp
theorem a0b:GV ol m fl dss []:=fun e he=>by cases he
theorem vW (hmix:P.follows .mixedOrders=true)(m:Nat)(fl al:List Nat)(Rs:List (aF→a6→Prop))(dss:List (List Nat))(rl:List (List Nat))(hk:vV n ol m fl l dss rl=true)(hal:al.all (fun i=>decide (i<m)&& !fl.contains i)=true)(hold:yO Rs al)(ho:lR P n ol fl al Rs l w dss 0)(hfin:∀w1,Ext w w1→Deps ol Rs w w1 (fun acc=>yR ol al acc→wl P ol.toArray (NP Q) n (ol.drop m) acc w1) (eI m) l):cw P Q n (.region id ol.toArray true) l w:=
 a2D hmix m fl al [] Rs dss rl hk hal hold a0b ho (fun w1 h=>Deps.weak (fun _ h1 h2 _=>h1 h2) _ _ (hfin w1 h))
theorem a2E (hmix:P.follows .mixedOrders=true)(m:Nat)(fl:List Nat)(Rs:List (aF→a6→Prop))(dss:List (List Nat))(rl:List (List Nat))(hk:vV n ol m fl l dss rl=true)(ho:lR P n ol fl [] Rs l w dss 0)(hfin:∀w1,Ext w w1→Deps ol Rs w w1 (fun acc=>wl P ol.toArray (NP Q) n (ol.drop m) acc w1) (eI m) l):cw P Q n (.region id ol.toArray true) l w:=
 vW hmix m fl [] Rs dss rl hk J xl ho (fun w1 h=>Deps.weak (k:=fun acc=>wl P ol.toArray (NP Q) n (ol.drop m) acc w1) (k':=fun acc=>yR ol [] acc→wl P ol.toArray (NP Q) n (ol.drop m) acc w1) (fun _ h1 _=>h1) _ _ (hfin w1 h))
theorem dN:lR P n ol fl al Rs l w [] k:=trivial
theorem oU (ho:ol[k]?=some o)(hf:fl.contains k=false)(h:wD P n ol al Rs l w k o ds)(h':lR P n ol fl al Rs l w dss (k+1)):lR P n ol fl al Rs l w (ds::dss) k:=
 ⟨by rw [ho];simp only;rw [hf];exact h,h'⟩
theorem gL (ho:ol[k]?=some o)(hf:fl.contains k=true)(h:CH P ol Rs l w k o ds)(h':lR P n ol fl al Rs l w dss (k+1)):lR P n ol fl al Rs l w (ds::dss) k:=
 ⟨by rw [ho];simp only;rw [hf];exact h,h'⟩
theorem iG {R:aF→a6→Prop}(hR:Rs[k]?=some R)(hn:al.contains k=false)(h:∀w1,Ext w w1→Deps ol Rs w w1 (fun acc=>wl P ol.toArray (lI w1 o.dst R) n [o] acc w1) ds l):wD P n ol al Rs l w k o ds:=by
 have e:kM Rs k=R:=by unfold kM;rw [hR];rfl
 intro w1 F;rw [e];refine Deps.weak (fun acc h1 a G=>?_) _ _ (h w1 F);have h2:=h1 a G;unfold wpList at h2⊢;have imp:∀a' w',lI w1 o.dst R .normal a' w'→lI w1 o.dst (fun v w=>R v w∧(al.contains k=true→sJ w1 v)) .normal a' w':=fun a' w' E=>⟨E.1,⟨E.2.1,fun hc=>by rw [hn] at hc;cases hc⟩,E.2.2⟩;split at h2
 ·rename_i f;rw [if_pos f];rcases h2 with h2 | h2
  ·exact cJ (D2 h2 (fun _ _ _ h=>h) (fun⟨_,_,h⟩=>h) (fun a w h=>h.2.2) (fun v w' h=>imp _ _ h))
  exact absurd h2.2 (fun⟨_,_,h⟩=>h)
 rename_i f;rw [if_neg f];exact imp _ _ h2
theorem y6 {N:a6→aF→Prop}(hN:∀w v,N w v→sJ w v){R:aF→a6→Prop}(hR:Rs[k]?=some R)(h:∀w1,Ext w w1→Deps ol Rs w w1 (fun acc=>wl P ol.toArray (lI w1 o.dst (fun v w=>R v w∧N w1 v)) n [o] acc w1) ds l):wD P n ol al Rs l w k o ds:=by
 have e:kM Rs k=R:=by unfold kM;rw [hR];rfl
 intro w1 F;rw [e];refine Deps.weak (fun acc h1 a G=>?_) _ _ (h w1 F);have h2:=h1 a G;unfold wpList at h2⊢;have imp:∀a' w',lI w1 o.dst (fun v w=>R v w∧N w1 v) .normal a' w'→lI w1 o.dst (fun v w=>R v w∧(al.contains k=true→sJ w1 v)) .normal a' w':=fun a' w' E=>⟨E.1,⟨E.2.1.1,fun _=>hN _ _ E.2.1.2⟩,E.2.2⟩;split at h2
 ·rename_i f;rw [if_pos f];rcases h2 with h2 | h2
  ·exact cJ (D2 h2 (fun _ _ _ h=>h) (fun⟨_,_,h⟩=>h) (fun a w h=>h.2.2) (fun v w' h=>imp _ _ h))
  exact absurd h2.2 (fun⟨_,_,h⟩=>h)
 rename_i f;rw [if_neg f];exact imp _ _ h2
theorem NewVr.in_ (w:a6)(v:aF)(h:NewVr w v):sJ w v:=by
 obtain⟨g,rfl,h⟩:=h;intro k f;rw [NX f];exact h
theorem vR {R:aF→a6→Prop}(hR:Rs[k]?=some R)(h:∀w1,Ext w w1→Deps ol Rs w w1 (fun acc=>wl P ol.toArray (lI w1 o.dst (fun v w=>R v w∧NewVr w1 v)) n [o] acc w1) ds l):wD P n ol al Rs l w k o ds:=y6 NewVr.in_ hR h
theorem gM {R:aF→a6→Prop}(hR:Rs[k]?=some R)(h:∀w1,Ext w w1→Deps ol Rs w w1 (fun acc=>∃v,kL acc o.op=true∧dD ol.toArray acc o.guard=some true∧(∀w,(execOp (rho acc) o).run P w= .ok (.value v) w)∧R v w1) ds l):CH P ol Rs l w k o ds:=by
 have e:kM Rs k=R:=by unfold kM;rw [hR];rfl
 intro w1 f;rw [e];exact h w1 f
end
def jA (P:cO)(n:Nat)(l:Fr)(o:bE)(w:a6)(x:gS)(w':a6):Prop:=∀a,Rp n l a→(execOp a.eval o).run P w= .ok x w'
section
variable {P:cO}{n:Nat}{l:Fr}{w:a6}{d:Nat}{op:Op}{ty:aS}{pos:String}{af:Array fL}{gd:Option (Nat×Bool)}
theorem iO (hk:kL l op=true)(hr:(execOp (rho l) ⟨dst,op,ty,pos,af,gd⟩).run P w= .ok (.value v) w:=by kernel_rfl):jA P n l ⟨dst,op,ty,pos,af,gd⟩ w (.value v) w:=fun a f=>by rw [tX hk f];exact hr
theorem cS {x:cR}{t:aS}(hx:cB l x=some (.pointer (some p)))(hl:(loadVar t p).run P w= .ok v w):jA P n l ⟨dst,.load t x,ty,pos,af,gd⟩ w (.value v) w:=fun a f=>by
 have e:(CU t (a.eval x)).run P w= .ok v w:=by rw [f.ev hx];exact hl
 show ((CU t (a.eval x)>>=fun r=>pure (iE r):Sem gS)).run P w=_
 rw [cV,e];rfl
theorem fQ {x y:cR}{t:aS}(hx:cB l x=some (.pointer (some p)))(hy:cB l y=some v)(hs:(storeVar t p v).run P w= .ok () w'):jA P n l ⟨dst,.store t x y,ty,pos,af,gd⟩ w .skip w':=fun a f=>by
 have e:(CT t (a.eval x) (a.eval y)).run P w= .ok () w':=by rw [f.ev hx,f.ev hy];exact hs
 show ((CT t (a.eval x) (a.eval y)>>=fun _=>pure Next.skip:Sem gS)).run P w=_
 rw [cV,e];rfl
theorem kA {x:cR}(hx:cB l x=some v):jA P n l ⟨dst,.assign x,ty,pos,af,gd⟩ w (.value v) w:=fun a f=>by simp only [execOp,f.ev hx];rfl
theorem cC {x:cR}(hx:cB l x=some v):jA P n l ⟨dst,.move x,ty,pos,af,gd⟩ w (.value v) w:=fun a f=>by simp only [execOp,f.ev hx];rfl
end
def dfr (ol:List bE)(vs:List aF)(l:Fr):List Nat→Fr
 | []=>l
 | j::ds=>oR (dB ol j) ((vs[j]?).getD undef) (dfr ol vs l ds)
def wv (ws:List a6)(w:a6)(t:Nat):a6:=(ws[t]?).getD w
section
variable (P:cO) (n:Nat) (ol:List bE) (vs:List aF) (ws:List a6) (w:a6) (dss:List (List Nat)) (l:Fr) (st:List Nat)
def GI (ol:List bE)(vs:List aF)(l:Fr):Fr:=dfr ol vs l (eI ol.length)
end
def mM (st js:List Nat):Nat:=(st.filter fun s=>js.contains s).length
def FY (n : Nat)(ol : List bE)(st : List Nat)(l : Fr)(dss rl : List (List Nat))(ps : List (Nat × Nat)): Bool :=
  (ol.zipIdx.all fun (o, i) => (match o.guard with | none => true | some _ => false) && (o.after.toList.all fun e => !Region.binds .any e || decide (e.on < i)) &&
    ((dL rl i).all fun j => decide (j < i) && o.after.toList.any fun e => kN .any e && (e.on == j || (dL rl e.on).contains j)) &&
    ((dL dss i).all fun j => (dL rl i).contains j) &&
    (match o.dst with
     | some d => !st.contains i && decide (d < n) && l.all (fun p => p.1 != d) && ol.zipIdx.all (fun (o', j) => j == i || o'.dst != some d)
     | none => st.contains i) &&
    (eI (st.length + 1)).all (fun t => decide (t < mM st (dL rl i)) || (t != 0 && (dL rl (st.getD (t - 1) 0)).contains i) || (st.contains i && t != mM st (dL rl i)) || ps.contains (i, t))) &&
  (eI st.length).all (fun t => decide (st.getD t 0 < ol.length) && (eI t).all fun u => (dL rl (st.getD t 0)).contains (st.getD u 0))
structure DetOk (n:Nat)(ol:List bE)(st:List Nat)(l:Fr)(dss rl:List (List Nat))(ps:List (Nat×Nat)):Prop where
 guard:∀(i:Nat) (o:bE),ol[i]?=some o→o.guard=none
 back:∀(i:Nat) (o:bE),ol[i]?=some o→∀e∈o.after,kN .any e=true→e.on<i
 reach:∀(i:Nat) (o:bE),ol[i]?=some o→∀j∈dL rl i,j<i∧∃e∈o.after,kN .any e=true∧(e.on=j∨j∈dL rl e.on)
 deps:∀(i:Nat) (o:bE),ol[i]?=some o→∀j∈dL dss i,j∈dL rl i
 val:∀(i:Nat) (o:bE),ol[i]?=some o→∀d,o.dst=some d→i ∉ st∧d<n∧(∀p∈l,p.1≠d)∧∀(j:Nat) (o':bE),ol[j]?=some o'→j≠i→o'.dst≠some d
 sto:∀(i:Nat) (o:bE),ol[i]?=some o→o.dst=none→i∈st
 pair:∀(i:Nat) (o:bE),ol[i]?=some o→∀t,t≤st.length→mM st (dL rl i)≤t→(t=0∨i ∉ dL rl (st.getD (t-1) 0))→(i∈st→t=mM st (dL rl i))→(i,t)∈ps
 inN:∀t,t<st.length→st.getD t 0<ol.length
 ord:∀t,t<st.length→∀u,u<t→st.getD u 0∈dL rl (st.getD t 0)
theorem a2y {l:Fr}{rl:List (List Nat)}(h:FY n ol st l dss rl ps=true):DetOk n ol st l dss rl ps:=by
 simp only [FY,fB] at h;obtain⟨h1,h2⟩:=h;have key:=fun (i:Nat) (o:bE) (f:ol[i]?=some o)=>u4 h1 i o f;simp only [fB] at key
 have E:∀t,t<st.length→st.getD t 0<ol.length∧∀u,u<t→st.getD u 0∈dL rl (st.getD t 0):=by
  intro t ht
  rw [gK] at h2
  have:=h2 t (j5.2 ht)
  simp only [fB,decide_eq_true_eq,gK,j5,lL] at this
  exact this
 refine⟨fun i o f=>?_,fun i o f e he hb=>?_,fun i o f j I=>?_,fun i o f j I=>?_,fun i o f d H=>?_,fun i o f H=>?_,fun i o f t ht hc W hs=>?_,fun t ht=>(E t ht).1,fun t ht=>(E t ht).2⟩
 ·have:=(key i o f).1.1.1.1.1;cases hg:o.guard with
  | none=>rfl
  | some g=>rw [hg] at this;cases this
 ·have:=(key i o f).1.1.1.1.2;rw [gK] at this;have:=this e (by simpa using he);simpa [hb] using this
 ·have:=(key i o f).1.1.1.2;rw [gK] at this;have:=this j I;simp only [fB,decide_eq_true_eq,CS,pH,beq_iff_eq,lL] at this;obtain⟨F,e,he,hb,G⟩:=this;exact⟨F,e,by simpa using he,hb,G⟩
 ·have:=(key i o f).1.1.2;rw [gK] at this;simpa using this j I
 ·have:=(key i o f).1.2;rw [H] at this;simp only [fB,CW,decide_eq_true_eq] at this;obtain⟨⟨⟨F,G⟩,M⟩,U⟩:=this;refine⟨fun hm=>?_,G,fun p V=>?_,fun j o' ho' L e=>?_⟩
  ·rw [lL.2 hm] at F;cases F
  ·rw [gK] at M;simpa using M p V
  have:=u4 U j o' ho';simp only [pH,beq_iff_eq,bne_iff_ne] at this;rcases this with h | h
  ·exact L h
  exact h e
 ·have:=(key i o f).1.2;rw [H] at this;exact lL.1 this
 have:=(key i o f).2;rw [gK] at this;have:=this t (j5.2 i9);simp only [pH,fB,decide_eq_true_eq,bne_iff_ne,ne_eq,lL] at this;rcases this with ((h | h) | h) | h
 ·omega
 ·rcases W with h0 | h0
  ·exact absurd h0 h.1
  exact absurd h.2 h0
 ·exact absurd (hs h.1) h.2
 exact h
section
variable {P:cO}{Q:dX→Act→a6→Prop}{n:Nat}{ol:List bE}{vs:List aF}{ws:List a6}{w:a6}{dss rl:List (List Nat)}{l:Fr}{st:List Nat}{ps:List (Nat×Nat)}
theorem Rp.dfr {a:Act}(hr:Rp n l a):∀(ds:List Nat),(∀j∈ds,∀d,dB ol j=some d→a.tmps.getD d undef=(vs[j]?).getD undef)→Rp n (Go.Proofs.YtkkabncicmhjfaaGreatDoor.dfr ol vs l ds) a
 | [],_=>hr
 | j::ds,h=>by
  have ih:=Rp.dfr hr ds (fun i hi=>h i (by simp [hi]))
  simp only [Go.Proofs.YtkkabncicmhjfaaGreatDoor.dfr]
  cases hd:dB ol j with
  | none=>exact ih
  | some d=>exact ih.cons (h j ym d hd)
theorem PV (hk:DetOk n ol st l dss rl ps)(h:Closed ol listed):∀(i:Nat) (o:bE),ol[i]?=some o→(∀e∈o.after,kN .any e=true→listed.getD e.on false=true)→∀j∈dL rl i,listed.getD j false=true:=by
 intro i
 induction i using uG with
 | ind i ih=>
  intro o ho hall j hj
  obtain⟨_,e,he,hb,h1⟩:=hk.reach i o ho j hj
  have hlt:=hk.back i o ho e he hb
  rcases h1 with h1 | h1
  ·rw [←h1];exact hall e he hb
  ·have hN:e.on<ol.length:=Nat.lt_trans hlt (gU.1 ho).1
   exact ih e.on hlt _ (cT hN) (h e.on _ (cT hN) (hall e he hb)) j h1
theorem a2O {t:Nat}(h:∀u,t≤u→u<st.length→st.getD u 0 ∉ js):mM st js≤t:=by
 unfold mM;have e:st.filter (fun s=>js.contains s)=(st.take t).filter (fun s=>js.contains s)++(st.drop t).filter (fun s=>js.contains s):=by rw [←R7,uJ]
 have f:(st.drop t).filter (fun s=>js.contains s)= []:=by
  refine List.filter_eq_nil_iff.2 fun s hs=>?_
  obtain⟨u,o,rfl⟩:=wQ hs
  rw [iK] at o
  have:=h (t+u) i9 i9
  rw [List.getElem_drop]
  rw [bL,cT i9] at this
  simpa using this
 rw [e,f,List.append_nil];refine a8 (List.length_filter_le _ _) ?_;rw [eB];omega
theorem a0k {t:Nat}(ht:t≤st.length)(h:∀u,u<t→st.getD u 0∈js):t≤mM st js:=by
 unfold mM;have e:st.filter (fun s=>js.contains s)=(st.take t).filter (fun s=>js.contains s)++(st.drop t).filter (fun s=>js.contains s):=by rw [←R7,uJ]
 have f:(st.take t).filter (fun s=>js.contains s)=st.take t:=by
  refine List.filter_eq_self.2 fun s hs=>?_
  obtain⟨u,o,rfl⟩:=wQ hs
  rw [eB] at o
  have:=h u i9
  rw [List.getElem_take]
  rw [bL,cT i9] at this
  simpa using this
 rw [e,f,List.length_append,eB];omega
end
def dR (n:Nat):Nat:=if n=0 then 0 else Nat.log2 n+1
theorem GC:dR 0=0:=rfl
theorem rR (n:Nat):n<2^dR n:=by
 unfold dR;split
 ·omega
 exact Nat.lt_log2_self
theorem C6 (h:n≠0):2^(dR n-1)≤n:=by
 unfold dR;rw [if_neg h,oF];exact Nat.log2_self_le h
theorem pZ:dR n=0↔n=0:=by
 unfold dR;split <;> simp_all
theorem u3 (h:n<2^k):dR n≤k:=by
 by_cases h0:n=0
 ·subst h0;rw [GC];omega
 have h1:=C6 h0;have h2:2^(dR n-1)<2^k:=lS h1 h;have:=(CJ (by omega:1<2)).1 h2;have f:dR n≠0:=fun e=>h0 (pZ.1 e);omega
theorem GD (h1:n<2^k)(h2:k=0∨2^(k-1)≤n):dR n=k:=by
 have o:=u3 h1;rcases h2 with h | h
 ·omega
 by_cases h0:k=0
 ·omega
 have f:2^(k-1)<2^dR n:=lS h (rR n);have:=(CJ (by omega:1<2)).1 f;omega
theorem GH (x:Nat)(h:x<18446744073709551616:=by omega):Lib.bitLen x=dR x:=by
 by_cases h0:x=0
 ·subst h0;simp [Lib.bitLen,Lib.bitLenAux_zero,GC]
 obtain⟨a,b,c⟩:=Lib.bitLenAux_bounds 64 x h h0;exact (GD c (cN b)).symm
theorem nJ:WB=2^64:=by decide
theorem Q5 (x y c:Nat)(hc:c≤1)(w:a6):(callFunc 141 #[t9 (x:Int),t9 (y:Int),t9 (c:Int)]).run aM w=
   .ok (.value (.tuple #[t9 ((x+y+c)%18446744073709551616:Nat),t9 ((x+y+c)/18446744073709551616:Nat)])) w:=by
 rw [run_callFunc_extern Tryz.func141 (by kernel_rfl) (by kernel_rfl) (by kernel_rfl) (e:=add64Entry) (by kernel_rfl),run_add64 x y c i9 i9 i9 i9];simp only [Result.andThen];congr 5 <;> omega
theorem CA (hc:c≤1)(hx:x≤18446744073709551615)(hy:y≤18446744073709551615):∃s d:Nat,Hid (s+WB*d=x+y+c)∧s≤18446744073709551615∧d≤1∧
  ∀w,(callFunc 141 #[t9 (x:Int),t9 (y:Int),t9 (c:Int)]).run aM w= .ok (.value (.tuple #[t9 (s:Int),t9 (d:Int)])) w:=
 ⟨(x+y+c)%18446744073709551616,(x+y+c)/18446744073709551616,(show _=_ by rw [dJ];exact kF _ _),by omega,by omega,fun w=>Q5 x y c hc w⟩
theorem yK (hx:x≤18446744073709551615)(hy:y≤18446744073709551615):∃s d:Nat,Hid (s+WB*d=x+y)∧s≤18446744073709551615∧d≤1∧
  ∀w,(callFunc 141 #[t9 (x:Int),t9 (y:Int),t9 0]).run aM w= .ok (.value (.tuple #[t9 (s:Int),t9 (d:Int)])) w:=
 CA (c:=0) i9 hx hy
theorem a3S (hx:x≤18446744073709551615):∃s d:Nat,Hid (s+WB*d=x+1)∧s≤18446744073709551615∧d≤1∧
  ∀w,(callFunc 141 #[t9 (x:Int),t9 0,t9 1]).run aM w= .ok (.value (.tuple #[t9 (s:Int),t9 (d:Int)])) w:=
 CA (y:=0) (c:=1) i9 hx i9
theorem I4 {Q:dX→Act→a6→Prop}(hgd:o.guard=none)(x y c:cR)(ho:o.op= .call {callee:= .value (.func 141),args:= #[x,y,c],argTypes:=ts})(X Y C:Nat)(hx:a.eval x= t9 (X:Int))(hy:a.eval y= t9 (Y:Int))(hz:a.eval c= t9 (C:Int))(hC:C≤1)(hX:X≤18446744073709551615)(hY:Y≤18446744073709551615)(h:∀s d:Nat,Hid (s+WB*d=X+Y+C)→s≤18446744073709551615→d≤1→wpList aM ops Q rest (a.put o.dst (.tuple #[t9 (s:Int),t9 (d:Int)])) w):wpList aM ops Q (o::rest) a w:=by
 refine CI hgd fun K E=>?_;have f:=Q5 X Y C hC w;unfold pA;have hf:a.eval (.func 141)= .func (.func 141) #[] #[]:=rfl;simp [execOp,ho,resolve,invoke,hf,hx,hy,hz,f,R8,nN];have:=E _ _ (h ((X+Y+C)%18446744073709551616) ((X+Y+C)/18446744073709551616) (show _=_ by rw [dJ];exact kF _ _) i9 i9);simpa using this
theorem Q4 (x y b:Nat)(hb:b≤1)(w:a6):(callFunc 142 #[t9 (x:Int),t9 (y:Int),t9 (b:Int)]).run aM w=
   .ok (.value (.tuple #[t9 ((x+18446744073709551616-y-b)%18446744073709551616:Nat),t9 (if x<y+b then 1 else 0:Nat)])) w:=by
 rw [run_callFunc_extern Tryz.func142 (by kernel_rfl) (by kernel_rfl) (by kernel_rfl) (e:=sub64Entry) (by kernel_rfl),run_sub64 x y b hb];rfl
theorem zR (hc:c≤1)(hx:x≤18446744073709551615)(hy:y≤18446744073709551615):∃s d:Nat,Hid (s+y+c=x+WB*d)∧s≤18446744073709551615∧d≤1∧
  ∀w,(callFunc 142 #[t9 (x:Int),t9 (y:Int),t9 (c:Int)]).run aM w= .ok (.value (.tuple #[t9 (s:Int),t9 (d:Int)])) w:=by
 have f:=fun w=>Q4 x y c hc w;have h:(x+18446744073709551616-y-c)%18446744073709551616+y+c=x+WB*(if x<y+c then 1 else 0):=by rw [dJ];split <;> omega
 have E:(x+18446744073709551616-y-c)%18446744073709551616≤18446744073709551615:=by omega
 have o:(if x<y+c then 1 else 0)≤1:=by split <;> omega
 exact⟨_,_,h,E,o,f⟩
theorem U8 (hx:x≤18446744073709551615):∃s d:Nat,Hid (s+0+1=x+WB*d)∧s≤18446744073709551615∧d≤1∧
  ∀w,(callFunc 142 #[t9 (x:Int),t9 0,t9 1]).run aM w= .ok (.value (.tuple #[t9 (s:Int),t9 (d:Int)])) w:=
 zR (y:=0) (c:=1) i9 hx i9
theorem I2 {Q:dX→Act→a6→Prop}(hgd:o.guard=none)(x y c:cR)(ho:o.op= .call {callee:= .value (.func 142),args:= #[x,y,c],argTypes:=ts})(X Y C:Nat)(hx:a.eval x= t9 (X:Int))(hy:a.eval y= t9 (Y:Int))(hz:a.eval c= t9 (C:Int))(hC:C≤1)(hX:X≤18446744073709551615)(hY:Y≤18446744073709551615)(h:∀s d:Nat,Hid (s+Y+C=X+WB*d)→s≤18446744073709551615→d≤1→wpList aM ops Q rest (a.put o.dst (.tuple #[t9 (s:Int),t9 (d:Int)])) w):wpList aM ops Q (o::rest) a w:=by
 refine CI hgd fun K G=>?_;have f:=Q4 X Y C hC w;have E:(X+18446744073709551616-Y-C)%18446744073709551616+Y+C=X+WB*(if X<Y+C then 1 else 0):=by rw [dJ];split <;> omega
 have F:(X+18446744073709551616-Y-C)%18446744073709551616≤18446744073709551615:=by omega
 have H:(if X<Y+C then 1 else 0)≤1:=by split <;> omega
 generalize (X+18446744073709551616-Y-C)%18446744073709551616=s at*;generalize (if X<Y+C then 1 else 0)=d at*;unfold pA;have hf:a.eval (.func 142)= .func (.func 142) #[] #[]:=rfl;simp only [execOp,ho,resolve,invoke,hf,R8,pE,jS,kR,hx,hy,hz,cV,iH,fK,Array.empty_append,Array.append_empty,f,nN];exact G _ _ (h s d E F H)
theorem bits_Mul64 (x y:Nat)(hx:x≤18446744073709551615)(hy:y≤18446744073709551615)(w:a6):aQ aM 178 #[t9 (x:Int),t9 (y:Int)] w fun e w'=>∃hi lo:Nat,Hid (lo+WB*hi=x*y)∧hi≤18446744073709551615∧lo≤18446744073709551615∧
   e= .returned (.tuple #[t9 (hi:Int),t9 (lo:Int)])∧w=w':=by
 refine (Tryz.bits_Mul64 x y i9 i9 w).mono ?_;rintro e w' ⟨rfl,rfl⟩;refine⟨x*y/18446744073709551616,x*y%18446744073709551616,show _=_ by rw [dJ];exact kF _ _,?_,by omega,rfl,rfl⟩;have h1:x*y≤18446744073709551615*18446744073709551615:=kP hx hy;omega
theorem bits_Len64 (x:Nat)(hx:x≤18446744073709551615)(w:a6):aQ aM 120 #[t9 (x:Int)] w fun e w'=>∃n:Nat,Hid (n=dR x)∧n≤64∧e= .returned (no (n:Int))∧w=w':=by
 refine (Tryz.bits_Len64 x w i9 i9).mono ?_;rintro e w' ⟨rfl,rfl⟩;refine⟨dR x,rfl,u3 i9,?_,rfl⟩;rw [jB,GH x]
theorem bits_Len (x:Nat)(hx:x≤18446744073709551615)(w:a6):aQ aM 177 #[t9 (x:Int)] w fun e w'=>∃n:Nat,Hid (n=dR x)∧n≤64∧e= .returned (no (n:Int))∧w=w':=by
 refine (Tryz.bits_Len x w i9 i9).mono ?_;rintro e w' ⟨rfl,rfl⟩;refine⟨dR x,rfl,u3 i9,?_,rfl⟩;rw [jB,GH x]
theorem bits_LeadingZeros64 (x:Nat)(hx:x≤18446744073709551615)(w:a6):aQ aM 171 #[t9 (x:Int)] w fun e w'=>∃n:Nat,Hid (n+dR x=64)∧n≤64∧e= .returned (no (n:Int))∧w=w':=by
 refine (Tryz.bits_LeadingZeros64 x w i9 i9).mono ?_;rintro e w' ⟨rfl,rfl⟩;have h1:dR x≤64:=u3 i9;refine⟨64-dR x,show _=_ by omega,by omega,?_,rfl⟩;rw [jB,GH x];congr 2;omega
def F9:jU→Bool
 | .eql=>true
 | .neq=>true
 | _=>false
theorem I3 {Q:dX→Act→a6→Prop}(hgd:o.guard=none){t:aS}{x y:cR}(ho:o.op= .binOp op t x y ty)(hx:a.eval x=vx)(hy:a.eval y=vy)(hne:F9 op=false)(hr:∀w,(binOp op t vx vy).run P w= .ok v w)(h:wpList P ops Q rest (a.put o.dst v) w):wpList P ops Q (o::rest) a w:=by
 refine CI hgd fun K f=>?_;unfold pA
 have hg:(eqGuard op t x y vx vy).run P w= .ok () w:=by
  unfold eqGuard
  cases op <;> first | rfl | exact absurd hne yd
 simp only [execOp,ho,hx,hy,cV,hg,fK,hr,iH,nN];exact f _ _ h
theorem fD {Q:dX→Act→a6→Prop}(hgd:o.guard=none){t:aS}{x y:cR}(ho:o.op= .binOp op t x y ty){f:Nat}(hx:a.eval x=vx)(hy:a.eval y=vy)(hne:F9 op=false)(hr:∀(P:cO) (t:aS) (w:a6),(binOp op t vx vy).run P w= .ok (t9 (f:Int)) w)(h:∀r:Nat,Hid (r=f)→r≤18446744073709551615→wpList P ops Q rest (a.put o.dst (t9 (r:Int))) w)(hf:f≤18446744073709551615:=by omega):wpList P ops Q (o::rest) a w:=
 I3 hgd ho hx hy hne (fun w=>hr P t w) (h f J hf)
theorem oI (n:Nat):IntKind.u64.wrap (n:Int)=((n%18446744073709551616:Nat):Int):=by
 simp [yY,wT,wS]
theorem sY {s:Nat}(hs:s≤64)(P:cO)(t:aS)(w:a6):(binOp .shl t (t9 (x:Int)) (t9 (s:Int))).run P w= .ok (t9 (x*2^s%18446744073709551616:Nat)) w:=by
 have e:((x:Int)*2^min (s:Int).toNat IntKind.u64.bits)=((x*2^s:Nat):Int):=by
  rw [jB,show min s IntKind.u64.bits=s from iJ hs];simp
 simp only [binOp];rw [shift_shl_any _ _ _ _ i9,e,oI];rfl
theorem qG {s:Nat}(hs:s≤64)(P:cO)(t:aS)(w:a6):(binOp .shr t (t9 (x:Int)) (t9 (s:Int))).run P w= .ok (t9 (x/2^s:Nat)) w:=by
 have e:((x:Int)/2^min (s:Int).toNat IntKind.u64.bits)=((x/2^s:Nat):Int):=by
  rw [jB,show min s IntKind.u64.bits=s from iJ hs];simp
 simp only [binOp];rw [shift_shr_any _ _ _ _ i9,e];rfl
theorem uQ (P:cO)(t:aS)(w:a6):(binOp .mul t (t9 (x:Int)) (t9 (y:Int))).run P w= .ok (t9 (x*y%18446744073709551616:Nat)) w:=by
 rw [←oI,oH];rfl
theorem DD (P:cO)(t:aS)(w:a6):(binOp .add t (t9 (x:Int)) (t9 (y:Int))).run P w= .ok (t9 ((x+y)%18446744073709551616:Nat)) w:=by
 rw [←oI,Int.natCast_add];rfl
theorem sX (hy:y≤18446744073709551616)(P:cO)(t:aS)(w:a6):(binOp .sub t (t9 (x:Int)) (t9 (y:Int))).run P w= .ok (t9 ((x+(18446744073709551616-y))%18446744073709551616:Nat)) w:=by
 have e:IntKind.u64.wrap ((x:Int)-(y:Int))=(((x+(18446744073709551616-y))%18446744073709551616:Nat):Int):=by
  simp only [yY,wT,wS]
  simp
  omega
 rw [←e];rfl
theorem IM (hy:y≠0)(hx:x≤18446744073709551615)(P:cO)(t:aS)(w:a6):(binOp .quo t (t9 (x:Int)) (t9 (y:Int))).run P w= .ok (t9 (x/y:Nat)) w:=by
 have h1:=gN x y
 have e:IntKind.u64.wrap ((x:Int).tdiv (y:Int))=((x/y:Nat):Int):=by
  have:(x:Int).tdiv (y:Int)=((x/y:Nat):Int):=by rw [yZ i9];simp
  rw [this,oI,iW i9]
 simp only [binOp,yU];simp [hy];rw [show (↑x/ ↑y:Int)=((x/y:Nat):Int) from by simp] at*;simpa [yZ] using e
theorem rO (hx:x≤18446744073709551615):(rC 64 (x:Int)).toNat=x:=ofInt_u64 x i9
theorem wY (hx:x≤18446744073709551615)(hy:y≤18446744073709551615)(P:cO)(t:aS)(w:a6):(binOp .or t (t9 (x:Int)) (t9 (y:Int))).run P w= .ok (t9 (x||| y:Nat)) w:=by
 have e:IntKind.u64.wrap ((rC 64 (x:Int)||| rC 64 (y:Int)).toNat:Int)=((x||| y:Nat):Int):=by
  rw [BitVec.toNat_or,rO hx,rO hy,oI,iW (sN (n:=64) i9 i9)]
 rw [←e];rfl
theorem IP (hx:x≤18446744073709551615)(hy:y≤18446744073709551615)(P:cO)(t:aS)(w:a6):(binOp .and t (t9 (x:Int)) (t9 (y:Int))).run P w= .ok (t9 (x&&& y:Nat)) w:=by
 have e:IntKind.u64.wrap ((rC 64 (x:Int)&&& rC 64 (y:Int)).toNat:Int)=((x&&& y:Nat):Int):=by
  rw [BitVec.toNat_and,rO hx,rO hy,oI,iW (Nat.and_lt_two_pow (n:=64) _ i9)]
 rw [←e];rfl
theorem EI (hy:y<2^k):(x*2^k)||| y=x*2^k+y:=nat_join k _ _ ym hy
structure Guess (B yn1 yn0 u un q r:Nat):Prop where
 eq:q*yn1+r=u
 top:u*B+un<(q+1)*(yn1*B+yn0)
 qb:q≤B+1
theorem Guess.start {B:Nat}(_hB:0<B)(h1:B≤2*yn1)(hun:un<B)(hu:u<yn1*B+yn0)(h0:yn0<B):Guess B yn1 yn0 u un (u/yn1) (u%yn1):=by
 have f:0<yn1:=by omega
 refine⟨by rw [dH];exact pD u yn1,?_,?_⟩
 ·have h2:u<(u/yn1+1)*yn1:=by
   rw [dH];exact sP u f
  have h:u*B+B≤((u/yn1+1)*yn1)*B:=by
   have:=fC B (q7 h2)
   rwa [pB] at this
  rw [dE,←cU];omega
 have h2:u<(B+2)*yn1:=by
  rw [eE,dH B]
  omega
 have:=(wN f).2 h2;omega
theorem Guess.pos {B:Nat}(hB:0<B)(ht:B≤q∨B*r+un<q*yn0):0<q:=by
 rcases ht with h | h
 ·omega
 rcases lT q with e | e
 ·subst e;simp at h
 exact e
theorem Guess.step {B:Nat}(h:Guess B yn1 yn0 u un q r)(hun:un<B)(hu:u<yn1*B+yn0)(ht:B≤q∨B*r+un<q*yn0)(hq:0<q):Guess B yn1 yn0 u un (q-1) (r+yn1):=by
 obtain⟨e,ht',qb⟩:=h;refine⟨?_,?_,by omega⟩
 ·have:q*yn1=(q-1)*yn1+yn1:=by
   conv=>lhs;rw [show q=(q-1)+1 from by omega]
   rw [pB]
  omega
 rw [lJ hq,dE,←cU];rcases ht with h | h
 ·have h1:B*(yn1*B+yn0)≤q*(yn1*B+yn0):=fC _ h;have h2:B*(u+1)≤B*(yn1*B+yn0):=gT _ hu;rw [dE,←cU] at h1;rw [sO,dH B u] at h2;have o:q*(yn1*B+yn0)=q*yn1*B+q*yn0:=by rw [dE,cU]
  have f:B*(yn1*B+yn0)=B*yn1*B+B*yn0:=by rw [dE,cU]
  omega
 have h1:(q*yn1+r)*B=u*B:=by rw [e]
 rw [eE,dH r B] at h1;omega
theorem Guess.done {B:Nat}(h:Guess B yn1 yn0 u un q r)(h0:yn0<B)(hd:(q<B∧q*yn0≤B*r+un)∨(q≤B∧B≤r)):q=(u*B+un)/(yn1*B+yn0)∧q*(yn1*B+yn0)≤u*B+un:=by
 obtain⟨e,ht,_⟩:=h
 have key:q*yn0≤B*r+un:=by
  rcases hd with⟨_,h⟩ | ⟨h1,h2⟩
  ·exact h
  ·have F:q*yn0≤B*B:=kP h1 i9
   have E:B*B≤B*r:=gT _ h2
   omega
 have f:q*(yn1*B+yn0)≤u*B+un:=by
  have h1:(q*yn1+r)*B=u*B:=by rw [e]
  rw [eE,dH r B] at h1
  rw [dE,←cU]
  omega
 refine⟨?_,f⟩
 have o:0<yn1*B+yn0:=by
  rcases lT (yn1*B+yn0) with h | h
  ·rw [h] at ht;simp at ht
  ·exact h
 exact (Nat.div_eq_of_lt_le (by rw [dH] at f;rwa [dH]) ht).symm
theorem I1 {a r1 r2 r3 r4:Nat}(h1:r1=a%18446744073709551616)(h2:r2=(r1+b)%18446744073709551616)(h3:r3=c%18446744073709551616)(h4:r4=(r2+(18446744073709551616-r3))%18446744073709551616)(h:a+b=c+d)(hd:d≤18446744073709551615):r4=d:=by
 omega
theorem M2 {s:Nat}(hy:y≠0)(hs:s+dR y=64):y*2^s<18446744073709551616∧9223372036854775808≤y*2^s:=by
 have h1:=rR y;have h2:=C6 hy;have hb:dR y≠0:=fun h=>hy (pZ.1 h);have o:y*2^s<2^dR y*2^s:=uI h1 (oE s);have f:2^(dR y-1)*2^s≤y*2^s:=fC _ h2;rw [←eS,show dR y+s=64 from by omega] at o;rw [←eS,show dR y-1+s=63 from by omega] at f;exact⟨o,f⟩
theorem FW {s:Nat}(hs:s+dR y=64)(hyy:yy=y*2^s%18446744073709551616)(h1:yn1=yy/2^32)(hy:y≠0:=by omega):yy=y*2^s∧2147483648≤yn1:=by
 obtain⟨a,b⟩:=M2 hy hs;rw [iW a] at hyy;refine⟨hyy,?_⟩;rw [h1,hyy];omega
theorem a3J (x:Nat):x&&& 4294967295=x%4294967296:=Nat.and_two_pow_sub_one_eq_mod x 32
theorem UV {lo s:Nat}(hs:s≤64):lo*2^s=lo/2^(64-s)*18446744073709551616+lo*2^s%18446744073709551616:=by
 have e:lo*2^s/18446744073709551616=lo/2^(64-s):=by
  have h:(18446744073709551616:Nat)=2^(64-s)*2^s:=by rw [←eS,show 64-s+s=64 from by omega]
  conv=>lhs;rw [h]
  exact H5 _ _ (oE s)
 rw [←e,dH (lo*2^s/18446744073709551616)];exact (pD _ _).symm
theorem a2t {lo s r46 r49 r50:Nat}(hlt:hi<y)(hlo:lo≤18446744073709551615)(hs:s+dR y=64)(hs64:s≤64)(hyy:yy=y*2^s%18446744073709551616)(h1:yn1=yy/2^32)(h0:yn0=yy&&& 4294967295)(h46:r46=hi*2^s%18446744073709551616)(h49:r49=(64+(18446744073709551616-s))%18446744073709551616)(h50:r50=lo/2^r49)(hu:u=r46||| r50)(h10:un10=lo*2^s%18446744073709551616)(hu1:un1=un10/2^32)(hu0:un0=un10&&& 4294967295):yy=y*2^s∧yy=yn1*4294967296+yn0∧yn0<4294967296∧yn1<4294967296∧u<yy∧un1<4294967296∧un0<4294967296∧un10=un1*4294967296+un0∧(hi*WB+lo)*2^s=u*18446744073709551616+un10:=by
 obtain⟨G,_⟩:=FW hs hyy h1;have F:=(M2 (y:=y) i9 hs).1;have h:r49=64-s:=by omega
 have H:hi*2^s<y*2^s:=uI hlt (oE s);have mK:r46=hi*2^s:=by rw [h46,iW i9]
 have E:=UV (lo:=lo) hs64;rw [h] at h50
 have f:r50<2^s:=by
  rw [h50]
  refine yX ?_
  rw [←eS,show 64-s+s=64 from by omega]
  omega
 have eu:u=hi*2^s+r50:=by rw [hu,mK,EI f]
 rw [a3J] at h0 hu0
 have eU:(hi*WB+lo)*2^s=u*18446744073709551616+un10:=by
  rw [eE,dJ,E,eu,←h50,←h10,eE,uH]
  omega
 have o:u<yy:=by
  have h2:(hi+1)*2^s≤y*2^s:=fC _ hlt
  rw [pB] at h2
  omega
 refine⟨G,by omega,by omega,by omega,o,by omega,by omega,by omega,eU⟩
theorem a2u {lo s q1 v q0:Nat}(hy:0<y)(e1:yy=y*2^s)(e10:un10=un1*4294967296+un0)(eU:(hi*WB+lo)*2^s=u*18446744073709551616+un10)(hq1:u*4294967296+un1=q1*yy+v)(hq0:v*4294967296+un0=q0*yy+r)(hr:r<yy):(hi*WB+lo)/y=q1*4294967296+q0∧(hi*WB+lo)%y=r/2^s:=by
 have o:=oE s
 have E:(hi*WB+lo)*2^s=(q1*4294967296+q0)*yy+r:=by
  have G:(q1*4294967296+q0)*yy=(q1*yy)*4294967296+q0*yy:=by rw [eE,uH]
  have F:u*18446744073709551616+un1*4294967296=(u*4294967296+un1)*4294967296:=by rw [eE,cU]
  rw [eU,e10,G,←k8,F,hq1,eE,k8,hq0,k8]
 have f:0<yy:=by rw [e1];exact jZ hy o
 constructor
 ·rw [←H5 _ _ o,←e1,E,dH _ yy,r9 f,jL hr,fN]
 have h:=CK (2^s) (hi*WB+lo) y;rw [←e1,E,dH _ yy,yW,iW hr] at h;rw [h,Nat.mul_div_cancel _ o]
def GX (hi lo y:Nat)(w:a6)(e:eF)(w':a6):Prop:=
 ∃q r:Nat,Hid (q=(hi*WB+lo)/y)∧Hid (r=(hi*WB+lo)%y)∧q≤18446744073709551615∧r<y∧e= .returned (.tuple #[t9 (q:Int),t9 (r:Int)])∧∃m,w'=w.drewN m
theorem a2r {lo:Nat}(hlo:lo≤18446744073709551615)(hy:1≤y)(hyb:y≤18446744073709551615)(w:a6):aQ aM 170 #[t9 0,t9 (lo:Int),t9 (y:Int)] w (GX 0 lo y w):=by
 have h1:((y:Int)==0)=false:=by simp;omega
 have h2:¬(y:Int)≤0:=by omega
 have h3:(lo:Int)/(y:Int)≤(lo:Int):=Int.ediv_le_self _ i9;have h4:0≤(lo:Int)/(y:Int):=Int.ediv_nonneg i9 i9;have h5:=kS (lo:Int) (b:=(y:Int)) i9;have h6:=lU (lo:Int) (b:=(y:Int)) i9
 go_enter Tryz.func170,Tryz.ntmps170
 go_wp2_with fail
 go_quiet (fail)
 go_wp2_with fail
 go_ret2
 refine⟨lo/y,lo%y,by simp [Hid],by simp [Hid],?_,g7 _ hy,by simp,_,rfl⟩;have:=gN lo y;omega
theorem Guess.fin (e:yy=yn1*4294967296+yn0)(h0:yn0<4294967296)(hyy:0<yy)(hu:u<yy)(hun:un<4294967296)(hG:Guess 4294967296 yn1 yn0 u un q r)(hd:(q<4294967296∧q*yn0≤4294967296*r+un)∨(q≤4294967296∧4294967296≤r)):q≤4294967295∧∃v,Hid (u*4294967296+un=q*yy+v)∧v<yy:=by
 obtain⟨a,b⟩:=hG.done h0 hd;rw [←e] at a b;refine⟨?_,u*4294967296+un-q*yy,?_,?_⟩
 ·have:q<4294967296:=by
   rw [a]
   refine yX ?_
   have:=fC 4294967296 (q7 hu)
   rw [pB] at this
   omega
  omega
 ·show _=_;omega
 have:=sP (u*4294967296+un) hyy;rw [←a,dE,eH,dH yy q] at this;omega
theorem LC {r65 rh:Nat}(hy:0<y)(hu:u≤18446744073709551615)(e1:q=u/y)(e2:r65=q*y%18446744073709551616)(e3:rh=(u+(18446744073709551616-r65))%18446744073709551616):rh=u%y:=by
 have h:=pD u y;rw [e1,dH] at e2;have f:=g7 u hy;generalize y*(u/y)=a at*;generalize u%y=b at*;omega
theorem a2s {lo:Nat}(hhi:1≤hi)(hlt:hi<y)(hlo:lo≤18446744073709551615)(hyb:y≤18446744073709551615)(w:a6):aQ aM 170 #[t9 (hi:Int),t9 (lo:Int),t9 (y:Int)] w (GX hi lo y w):=by
 have h1:((y:Int)==0)=false:=by simp;omega
 have h2:¬(y:Int)≤(hi:Int):=by omega
 have h3:((hi:Int)==0)=false:=by simp;omega
 go_enter Tryz.func170,Tryz.ntmps170
 go_wp2_with fail
 refine (bits_LeadingZeros64 y hyb _).mono ?_;rintro e w' ⟨s,hs,hs64,rfl,rfl⟩
 go_upto_block 0 with (first
  | ((with_reducible refine dU (some 39) ?_);refine fD rfl rfl rfl rfl rfl (sY hs64) ?_;intro yy hyy hyyb)
  | ((with_reducible refine dU (some 41) ?_);refine fD rfl rfl rfl rfl rfl (qG (s:=32) i9) ?_;intro yn1 hyn1 hyn1b)
  | ((with_reducible refine dU (some 43) ?_);refine fD rfl rfl rfl rfl rfl (IP (y:=4294967295) hyyb i9) ?_ (hf:=(by have:=Nat.and_le_left (n:=yy) (m:=4294967295);omega));intro yn0 hyn0 hyn0b)
  | ((with_reducible refine dU (some 46) ?_);refine fD rfl rfl rfl rfl rfl (sY hs64) ?_;intro r46 h46 hb46)
  | ((with_reducible refine dU (some 49) ?_);refine fD rfl rfl rfl rfl rfl (sX (x:=64) (y:=s) i9) ?_;intro r49 h49 hb49)
  | ((with_reducible refine dU (some 50) ?_);refine fD rfl rfl rfl rfl rfl (qG (s:=r49) (by rw [h49.out];omega)) ?_ (hf:=(by have:=gN lo (2^r49);omega));intro r50 h50 hb50)
  | ((with_reducible refine dU (some 51) ?_);refine fD rfl rfl rfl rfl rfl (wY hb46 hb50) ?_ (hf:=(by have:=sN (n:=64) (x:=r46) (y:=r50) i9 i9;omega));intro u hu hub)
  | ((with_reducible refine dU (some 54) ?_);refine fD rfl rfl rfl rfl rfl (sY hs64) ?_;intro un10 h10 hb10)
  | ((with_reducible refine dU (some 56) ?_);refine fD rfl rfl rfl rfl rfl (qG (s:=32) i9) ?_;intro un1 hun1 hun1b)
  | ((with_reducible refine dU (some 58) ?_);refine fD rfl rfl rfl rfl rfl (IP (y:=4294967295) hb10 i9) ?_ (hf:=(by have:=Nat.and_le_left (n:=un10) (m:=4294967295);omega));intro un0 hun0 hun0b)
  | ((with_reducible refine dU (some 61) ?_);refine fD rfl rfl rfl rfl rfl (IM (by have:=(FW hs.out hyy.out hyn1.out).2;omega) hub) ?_ (hf:=(by have:=gN u yn1;omega));intro q1 hq1 hq1b)
  | ((with_reducible refine dU (some 65) ?_);refine fD rfl rfl rfl rfl rfl uQ ?_;intro r65 h65 hb65)
  | ((with_reducible refine dU (some 66) ?_);refine fD rfl rfl rfl rfl rfl (sX i9) ?_;intro rh hrh hrhb))
 have hN:=a2t hlt hlo hs.out hs64 hyy.out hyn1.out hyn0.out h46.out h49.out h50.out hu.out h10.out hun1.out hun0.out;have hyn1lo:=(FW hs.out hyy.out hyn1.out).2;obtain⟨n1,n2,n3,n4,n5,n6,n7,n8,n9⟩:=hN;have N1:=Lib.hid n1;have N2:=Lib.hid n2;have N3:=Lib.hid n3;have N5:=Lib.hid n5;have N6:=Lib.hid n6;have NL:=Lib.hid hyn1lo;have hyylo:0<yy:=by omega
 have hyn1hi:(yn1:Int)≤4294967295:=by omega
 have hyn1pos:0<yn1:=by omega
 have hun1hi:(un1:Int)≤4294967295:=by omega
 have hyn0hi:(yn0:Int)≤4294967295:=by omega
 have hun0hi:(un0:Int)≤4294967295:=by omega
 have N8:=Lib.hid n8;have N9:=Lib.hid n9;have hq1':Hid (q1=u/yn1):=hq1;have hrh':Hid (rh=u%yn1):=LC i9 hub hq1.out h65.out hrh.out;clear n1 n2 n3 n4 n5 n6 n7 n8 n9 hyn1lo hyy hyn1 hyn0 h46 h49 h50 hu h10 hun1 hun0 h65 hrh hq1;clear hb46 hb49 hb50 hb65 hrhb hq1b h1 h2 h3
 go_cut [15,16] (fun a b wc=>∃q r v:Nat,a= t9 (q:Int)∧b= t9 (r:Int)∧q≤4294967295∧Hid (u*4294967296+un1=q*yy+v)∧v<yy∧w=wc)
 case first=>
  have HG0:=Lib.hid (Guess.start (B:=4294967296) (yn1:=yn1) (yn0:=yn0) (u:=u) (un:=un1) i9 (by have:=NL.out;omega) N6.out (by rw [←N2.out];exact N5.out) N3.out)
  refine wp_block ?_
  go_wp2_with fail
  go_loop [15,16] (fun a b=>∃q r:Nat,a= t9 (q:Int)∧b= t9 (r:Int)∧q≤4294967297∧r≤4294967295∧Hid (Guess 4294967296 yn1 yn0 u un1 q r)) (fun a b=>(intOf a).toNat)
  case atStart=>exact⟨q1,rh,rfl,rfl,by have:=HG0.out.qb;rw [hq1'.out];omega,by rw [hrh'.out];have:=g7 u (show 0<yn1 by omega);omega,by rw [hq1'.out,hrh'.out];exact HG0⟩
  case round=>
   obtain⟨q,r,rfl,rfl,hq,hr,hG⟩:=hrel
   by_cases hqB:(4294967296:Int)≤(q:Int)
   ·have HS:=Lib.hid (hG.out.step N6.out (by rw [←N2.out];exact N5.out) (cJ i9) i9)
    have HQ:=Lib.hid hq
    by_cases hrB:(4294967296:Int)≤(r:Int)+(yn1:Int)
    ·go_upto_region 20 with (fail)
     have HQB:=Lib.hid hqB
     clear hqB
     go_wp2_with fail
     go_meet
     case rel=>
      obtain⟨a,v,b,c⟩:=Guess.fin N2.out N3.out hyylo N5.out N6.out HS.out (cN ⟨by have:=HQB.out;omega,by omega⟩)
      exact⟨q-1,r+yn1,v,gW (h:=(by have:=HQB.out;omega)),gW,a,b,c,rfl⟩
    ·go_upto_region 20 with (fail)
     have HQB:=Lib.hid hqB
     clear hqB
     go_wp2_with fail
     go_round
     case rel=>exact⟨q-1,r+yn1,gW (h:=(by have:=HQB.out;omega)),gW,by omega,by omega,HS⟩
     case measure=>have:=HQB.out;simp [intOf];omega
   ·have hp1:(q:Int)*(yn0:Int)≤18446744065119617025:=by
     have h:q*yn0≤4294967295*4294967295:=kP i9 i9
     rw [←oH];omega
    have hp0:0≤(q:Int)*(yn0:Int):=Int.mul_nonneg i9 i9
    by_cases hT:4294967296*r+un1<q*yn0
    ·have hTi:4294967296*(r:Int)+(un1:Int)<(q:Int)*(yn0:Int):=by rw [←oH];omega
     have hqp:=Guess.pos (B:=4294967296) (r:=r) (un:=un1) i9 (cN hT)
     have HS:=Lib.hid (hG.out.step N6.out (by rw [←N2.out];exact N5.out) (cN hT) hqp)
     clear hT
     by_cases hrB:(4294967296:Int)≤(r:Int)+(yn1:Int)
     ·go_wp2_with fail
      go_meet
      case rel=>
       obtain⟨a,v,b,c⟩:=Guess.fin N2.out N3.out hyylo N5.out N6.out HS.out (cN ⟨by omega,by omega⟩)
       exact⟨q-1,r+yn1,v,gW,gW,a,b,c,rfl⟩
     ·go_wp2_with fail
      go_round
      case rel=>exact⟨q-1,r+yn1,gW,gW,by omega,by omega,HS⟩
      case measure=>simp [intOf];omega
    ·have hTi:¬4294967296*(r:Int)+(un1:Int)<(q:Int)*(yn0:Int):=by rw [←oH];omega
     have HT:=Lib.hid (show q*yn0≤4294967296*r+un1 by omega)
     clear hT
     go_wp2_with fail
     go_meet
     case rel=>
      obtain⟨a,v,b,c⟩:=Guess.fin N2.out N3.out hyylo N5.out N6.out hG.out (cJ ⟨by omega,HT.out⟩)
      exact⟨q,r,v,rfl,rfl,a,b,c,rfl⟩
 case rest=>
  obtain⟨qa,ra,v,rfl,rfl,hqa,hv,hvy,rfl⟩:=hcut
  clear hq1' hrh'
  go_upto_block 2 with (first
   | ((with_reducible refine dU (some 87) ?_);refine fD rfl rfl rfl rfl rfl uQ ?_;intro r87 h87 hb87)
   | ((with_reducible refine dU (some 89) ?_);refine fD rfl rfl rfl rfl rfl DD ?_;intro r89 h89 hb89)
   | ((with_reducible refine dU (some 92) ?_);refine fD rfl rfl rfl rfl rfl uQ ?_;intro r92 h92 hb92)
   | ((with_reducible refine dU (some 93) ?_);refine fD rfl rfl rfl rfl rfl (sX i9) ?_;intro v' hv' hbv';obtain rfl:v'=v:=I1 h87.out h89.out h92.out hv'.out hv.out i9)
   | ((with_reducible refine dU (some 96) ?_);refine fD rfl rfl rfl rfl rfl (IM i9 i9) ?_ (hf:=(by have:=gN v' yn1;omega));intro q2 hq2 hq2b)
   | ((with_reducible refine dU (some 100) ?_);refine fD rfl rfl rfl rfl rfl uQ ?_;intro r100 h100 hb100)
   | ((with_reducible refine dU (some 101) ?_);refine fD rfl rfl rfl rfl rfl (sX i9) ?_;intro rh2 hrh2 hrhb2))
  have hq2':Hid (q2=v'/yn1):=hq2
  have hrh2':Hid (rh2=v'%yn1):=LC i9 i9 hq2.out h100.out hrh2.out
  have NV:=Lib.hid hvy
  have N7:=Lib.hid (show un0<4294967296 by omega)
  clear hvy hrh2 hq2 h100 h87 h89 h92 hv' hb87 hb89 hb92 hbv' hb100 hrhb2 hq2b
  go_cut [18,16] (fun a b wc=>∃q r v:Nat,a= t9 (q:Int)∧b= t9 (r:Int)∧q≤4294967295∧Hid (v'*4294967296+un0=q*yy+v)∧v<yy∧w=wc)
  case first=>
   have HG0:=Lib.hid (Guess.start (B:=4294967296) (yn1:=yn1) (yn0:=yn0) (u:=v') (un:=un0) i9 (by have:=NL.out;omega) N7.out (by rw [←N2.out];exact NV.out) N3.out)
   refine wp_block ?_
   go_wp2_with fail
   go_loop [18,16] (fun a b=>∃q r:Nat,a= t9 (q:Int)∧b= t9 (r:Int)∧q≤4294967297∧r≤4294967295∧Hid (Guess 4294967296 yn1 yn0 v' un0 q r)) (fun a b=>(intOf a).toNat)
   case atStart=>exact⟨q2,rh2,rfl,rfl,by have:=HG0.out.qb;rw [hq2'.out];omega,by rw [hrh2'.out];have:=g7 v' (show 0<yn1 by omega);omega,by rw [hq2'.out,hrh2'.out];exact HG0⟩
   case round=>
    obtain⟨q,r,rfl,rfl,hq,hr,hG⟩:=hrel
    by_cases hqB:(4294967296:Int)≤(q:Int)
    ·have HS:=Lib.hid (hG.out.step N7.out (by rw [←N2.out];exact NV.out) (cJ i9) i9)
     have HQ:=Lib.hid hq
     by_cases hrB:(4294967296:Int)≤(r:Int)+(yn1:Int)
     ·go_upto_region 27 with (fail)
      have HQB:=Lib.hid hqB
      clear hqB
      go_wp2_with fail
      go_meet
      case rel=>
       obtain⟨a,v,b,c⟩:=Guess.fin N2.out N3.out hyylo NV.out N7.out HS.out (cN ⟨by have:=HQB.out;omega,by omega⟩)
       exact⟨q-1,r+yn1,v,gW (h:=(by have:=HQB.out;omega)),gW,a,b,c,rfl⟩
     ·go_upto_region 27 with (fail)
      have HQB:=Lib.hid hqB
      clear hqB
      go_wp2_with fail
      go_round
      case rel=>exact⟨q-1,r+yn1,gW (h:=(by have:=HQB.out;omega)),gW,by omega,by omega,HS⟩
      case measure=>have:=HQB.out;simp [intOf];omega
    ·have hp1:(q:Int)*(yn0:Int)≤18446744065119617025:=by
      have h:q*yn0≤4294967295*4294967295:=kP i9 i9
      rw [←oH];omega
     have hp0:0≤(q:Int)*(yn0:Int):=Int.mul_nonneg i9 i9
     by_cases hT:4294967296*r+un0<q*yn0
     ·have hTi:4294967296*(r:Int)+(un0:Int)<(q:Int)*(yn0:Int):=by rw [←oH];omega
      have hqp:=Guess.pos (B:=4294967296) (r:=r) (un:=un0) i9 (cN hT)
      have HS:=Lib.hid (hG.out.step N7.out (by rw [←N2.out];exact NV.out) (cN hT) hqp)
      clear hT
      by_cases hrB:(4294967296:Int)≤(r:Int)+(yn1:Int)
      ·go_wp2_with fail
       go_meet
       case rel=>
        obtain⟨a,v,b,c⟩:=Guess.fin N2.out N3.out hyylo NV.out N7.out HS.out (cN ⟨by omega,by omega⟩)
        exact⟨q-1,r+yn1,v,gW,gW,a,b,c,rfl⟩
      ·go_wp2_with fail
       go_round
       case rel=>exact⟨q-1,r+yn1,gW,gW,by omega,by omega,HS⟩
       case measure=>simp [intOf];omega
     ·have hTi:¬4294967296*(r:Int)+(un0:Int)<(q:Int)*(yn0:Int):=by rw [←oH];omega
      have HT:=Lib.hid (show q*yn0≤4294967296*r+un0 by omega)
      clear hT
      go_wp2_with fail
      go_meet
      case rel=>
       obtain⟨a,v,b,c⟩:=Guess.fin N2.out N3.out hyylo NV.out N7.out hG.out (cJ ⟨by omega,HT.out⟩)
       exact⟨q,r,v,rfl,rfl,a,b,c,rfl⟩
  case rest=>
   obtain⟨qb,rb,r,rfl,rfl,hqb,hr,hry,rfl⟩:=hcut
   clear hq2' hrh2'
   have HR:=Lib.hid hry
   clear hry
   go_wp2_with (first
    | ((with_reducible refine dU (some 126) ?_);refine fD rfl rfl rfl rfl rfl uQ ?_;intro r126 h126 hb126)
    | ((with_reducible refine dU (some 128) ?_);refine fD rfl rfl rfl rfl rfl DD ?_;intro r128 h128 hb128)
    | ((with_reducible refine dU (some 131) ?_);refine fD rfl rfl rfl rfl rfl uQ ?_;intro r131 h131 hb131)
    | ((with_reducible refine dU (some 132) ?_);refine fD rfl rfl rfl rfl rfl (sX i9) ?_;intro r' hr' hbr';obtain rfl:r'=r:=I1 h126.out h128.out h131.out hr'.out hr.out (by have:=HR.out;omega))
    | ((with_reducible refine dU (some 134) ?_);refine fD rfl rfl rfl rfl rfl (qG hs64) ?_ (hf:=(by have:=gN r' (2^s);omega));intro rr hrr hrrb))
   go_ret2
   obtain⟨e1,e2⟩:=a2u i9 N1.out N8.out N9.out hv.out hr.out HR.out
   have hy0:0<y:=by omega
   refine⟨_,_,e1.symm,e2.symm,by omega,?_,?_,0,rfl⟩
   ·rw [←e2];exact g7 _ hy0
   ·rw [←hrr.out];simp
theorem Q9 {lo:Nat}(hlt:hi<y)(hlo:lo≤18446744073709551615)(hyb:y≤18446744073709551615)(w:a6):aQ aM 170 #[t9 (hi:Int),t9 (lo:Int),t9 (y:Int)] w (GX hi lo y w):=by
 rcases lT hi with e | e
 ·subst e;exact a2r hlo i9 hyb w
 exact a2s e hlt hlo hyb w
end
section
def nb (b:Nat):List Nat→Nat
 | []=>0
 | x::r=>x+b*nb b r
def Wfb (b:Nat)(xs:List Nat):Prop:=∀x∈xs,x<b
theorem B4 (b:Nat):nb b []=0:=rfl
theorem nB (b x:Nat)(r:List Nat):nb b (x::r)=x+b*nb b r:=rfl
theorem xN (xs:List Nat):nv xs=nb WB xs:=by
 induction xs with
 | nil=>rfl
 | cons x r ih=>rw [rQ,nB,ih]
theorem xR (b:Nat)(xs ys:List Nat):nb b (xs++ys)=nb b xs+b^xs.length*nb b ys:=by
 induction xs with
 | nil=>simp [nb]
 | cons x r ih=>
  simp only [wR,nb,ih,fO,dS]
  rw [dE,←cU,dH b (b^r.length),k8]
theorem qN (h:Wfb b xs):nb b xs<b^xs.length:=by
 induction xs with
 | nil=>simp [nb]
 | cons x r ih=>
  have hx:x<b:=h x ym
  have hr:=ih (fun y hy=>h y (by simp [hy]))
  simp only [nb,fO,dS]
  have:b*nb b r+b≤b*b^r.length:=by
   have:=gT b (q7 hr)
   rw [sO] at this;exact this
  rw [dH (b^r.length)]
  omega
theorem xP (b n:Nat):nb b (dF n 0)=0:=by
 induction n with
 | zero=>rfl
 | succ n ih=>simp [CP,nb,ih]
theorem EQ (b:Nat)(xs:List Nat)(x:Nat):nb b (xs++ [x])=nb b xs+b^xs.length*x:=by
 rw [xR];simp [nb]
def sC (b:Nat):Nat→Nat→List Nat
 | 0,_=> []
 | f+1,n=>if n=0 then [] else n%b::sC b f (n/b)
def db (b n:Nat):List Nat:=sC b n n
theorem PJ (hb:2≤b)(f:Nat):∀(g n:Nat),n≤f→n≤g→sC b f n=sC b g n:=by
 induction f with
 | zero=>
  intro g n h _
  have:n=0:=by omega
  subst this
  cases g <;> simp [sC]
 | succ f ih=>
  intro g n h hg
  by_cases h0:n=0
  ·subst h0;cases g <;> simp [sC]
  ·cases g with
   | zero=>omega
   | succ g=>
    have hlt:n/b<n:=m0 i9 i9
    simp only [sC,h0,if_false]
    rw [ih g (n/b) i9 i9]
theorem lC (b:Nat):db b 0= []:=rfl
theorem nG (hb:2≤b)(h:n≠0):db b n=n%b::db b (n/b):=by
 have f:n/b<n:=m0 i9 i9;unfold db
 conv=>lhs;rw [PJ hb n (n+1) n (aU _) i9]
 simp only [sC,h,if_false];rw [PJ hb n (n/b) (n/b) i9 (aU _)]
theorem C1 (hb:2≤b){p:Nat→Prop}(h0:p 0)(hs:∀n,n≠0→p (n/b)→p n)(n:Nat):p n:=by
 induction n using uG with
 | ind n ih=>
  by_cases h:n=0
  ·subst h;exact h0
  ·exact hs n h (ih _ (m0 i9 i9))
theorem iS (hb:2≤b)(n:Nat):nb b (db b n)=n:=by
 induction n using C1 hb with
 | h0=>rfl
 | hs n h ih=>rw [nG hb h,nB,ih];exact kF n b
theorem lQ (hb:2≤b)(n:Nat):Wfb b (db b n):=by
 induction n using C1 hb with
 | h0=>intro x hx;cases hx
 | hs n h ih=>
  rw [nG hb h]
  intro x hx
  cases qA.1 hx with
  | inl e=>subst e;exact g7 _ i9
  | inr e=>exact ih x e
theorem G1 (hb:2≤b):db b n= []↔n=0:=by
 constructor
 ·intro h;rw [←iS hb n,h];rfl
 rintro rfl;rfl
theorem tN (hb:2≤b):(db b n).length=0↔n=0:=by
 rw [uK];exact G1 hb
theorem PI {b:Nat}(hb:2≤b):∀{xs:List Nat},Wfb b xs→(∀h:xs≠ [],xs.getLast h≠0)→db b (nb b xs)=xs
 | [],_,_=>rfl
 | [x],hw,ht=>by
  have hx:x<b:=hw x ym
  have h0:x≠0:=ht ym
  simp only [nb,iV,fN]
  rw [nG hb h0,iW hx,jL hx,lC]
 | x::y::r,hw,ht=>by
  have f:0<b:=by omega
  have hx:x<b:=hw x ym
  have ih:=PI hb (xs:=y::r) (fun z E=>hw z (by simp [E])) (fun h=>by have:=ht ym;simpa [List.getLast_cons] using this)
  have o:nb b (y::r)≠0:=by
   intro e
   rw [e,lC] at ih
   cases ih
  have hn:nb b (x::y::r)≠0:=by
   rw [nB]
   have:0<b*nb b (y::r):=jZ f i9
   omega
  rw [nG hb hn,nB,CL,iW hx,CM _ _ f,jL hx,eR,ih]
theorem G0 (hb:2≤b)(hw:Wfb b xs)(ht:xs.length=0∨xs.getD (xs.length-1) 0≠0):db b (nb b xs)=xs:=by
 refine PI hb hw (fun h=>?_);have hl:xs.length≠0:=by simpa using h
 rcases ht with h' | h'
 ·exact absurd h' hl
 rw [R6];have:xs.length-1<xs.length:=by omega
 rwa [bL,cT this,nM] at h'
theorem BX (hb:2≤b)(n:Nat):(db b n).length=0∨(db b n).getD ((db b n).length-1) 0≠0:=by
 induction n using C1 hb with
 | h0=>exact cJ rfl
 | hs n h ih=>
  right
  rw [nG hb h]
  rcases ih with h' | h'
  ·have h2:n/b=0:=(tN hb).1 h'
   have h3:n<b:=(Nat.div_eq_zero_iff.1 h2).resolve_left i9
   rw [h2,lC]
   simp only [List.length_singleton,Nat.sub_self]
   show n%b≠0
   rw [iW h3];exact h
  ·have hl:(db b (n/b)).length≠0:=fun e=>by
    rw [uK.1 e] at h';simp at h'
   obtain⟨k,hk⟩:∃k,(db b (n/b)).length=k+1:=⟨_,(Nat.succ_pred_eq_of_ne_zero hl).symm⟩
   have e:(db b (n/b)).length-1=k:=by omega
   rw [e] at h'
   rw [fO,hk,oF]
   simpa using h'
theorem lH (h:Wfb b xs)(k:Nat):Wfb b (xs.take k):=fun x hx=>h x (sR hx)
theorem GL (h:Wfb b xs)(k:Nat):Wfb b (xs.drop k):=fun x hx=>h x (q9 hx)
theorem CC (h:Wfb b xs)(k:Wfb b ys):Wfb b (xs++ys):=fun x hx=>by
 rcases m5.1 hx with e | e
 ·exact h x e
 ·exact k x e
theorem jK (h:Wfb b xs)(i:Nat)(hb:0<b:=by decide):xs.getD i 0<b:=by
 by_cases hi:i<xs.length
 ·rw [bL,cT hi];exact h _ (oG hi)
 rw [bL,jT i9];exact hb
theorem GK (b:Nat):Wfb b []:=fun x hx=>by cases hx
theorem qW (n:Nat)(hb:0<b:=by decide):Wfb b (dF n 0):=fun x hx=>by rw [(H6.1 hx).2];exact hb
theorem a3V (h:x<b):Wfb b [x]:=fun y f=>by rw [rB.1 f];exact h
theorem jJ (h:Wfb b xs)(i:Nat)(hx:x<b:=by omega):Wfb b (xs.set i x):=fun y f=>by
 rcases R5 f with e | e
 ·exact h y e
 ·rw [e];exact hx
theorem jE (b:Nat)(xs:List Nat)(k:Nat)(h:k<xs.length):nb b (xs.take (k+1))=nb b (xs.take k)+b^k*xs.getD k 0:=by
 rw [x7 xs k h 0,EQ,eB,iJ i9]
theorem oV (b:Nat)(xs:List Nat)(k:Nat)(h:k≤xs.length:=by omega):nb b xs=nb b (xs.take k)+b^k*nb b (xs.drop k):=by
 have:=xR b (xs.take k) (xs.drop k);rw [uJ,eB,iJ h] at this;exact this
theorem B3 (b:Nat)(xs:List Nat)(k:Nat)(h:k<xs.length)(h0:xs.getD k 0=0):nb b (xs.take (k+1))=nb b (xs.take k):=by
 rw [jE b xs k h,h0];simp
theorem vE (h:Wfb b xs)(k:Nat)(hb:0<b:=by decide):nb b (xs.take k)<b^k:=by
 have h1:=qN (lH h k);have h2:b^(xs.take k).length≤b^k:=fZ hb (by rw [eB];omega);omega
theorem BZ (hb:2≤b)(hw:Wfb b xs)(hk:k≤xs.length)(hv:nb b (xs.take k)=nb b xs)(ht:k=0∨xs.getD (k-1) 0≠0):db b (nb b xs)=xs.take k:=by
 have hl:(xs.take k).length=k:=by rw [eB];omega
 rw [←hv];refine G0 hb (lH hw k) ?_;rw [hl];rcases ht with h | h
 ·exact cJ h
 by_cases h0:k=0
 ·exact cJ h0
 refine cN ?_;rw [bL,lK,if_pos i9,←bL];exact h
theorem lY (hb : 2 ≤ b)(h : n < b ^ k): (db b n).length ≤ k := by
 induction k generalizing n with
 | zero => have : n = 0 := by simp at h; omega
           subst this; simp [lC]
 | succ k ih =>
   by_cases h0 : n = 0
   · subst h0; simp [lC]
   · rw [nG hb h0, fO]
     have : n / b < b ^ k := by rw [wN i9]; rwa [← dS]
     have := ih this
     omega
theorem EZ (hb:2≤b)(n:Nat):n<b^(db b n).length:=by
 have:=qN (lQ hb n);rwa [iS hb] at this
theorem LH (hb:2≤b)(h:n≠0):b^((db b n).length-1)≤n:=by
 refine rA (fun f=>?_);have h1:=lY hb f;have h2:(db b n).length≠0:=fun e=>h ((tN hb).1 e);omega
theorem vO (hb:2≤b)(h:x≤y):(db b x).length≤(db b y).length:=lY hb (lS h (EZ hb y))
theorem FZ {b:Nat}(hb:2≤b):∀{xs:List Nat}{m:Nat},Wfb b xs→m=(db b (nb b xs)).length→db b (nb b xs)=xs.take m
 | [],m,_,h=>by simp [nb,lC]
 | x::r,m,hw,h=>by
  have hx:x<b:=hw x ym
  by_cases h0:nb b (x::r)=0
  ·rw [h0,lC] at h⊢
   subst h;rfl
  ·have o:nb b (x::r)/b=nb b r:=by rw [nB,CM _ _ i9,jL hx,eR]
   have hm:nb b (x::r)%b=x:=by rw [nB,CL,iW hx]
   rw [nG hb h0,o,hm] at h⊢
   obtain⟨k,rfl⟩:∃k,m=k+1:=⟨m-1,by rw [h,fO];rfl⟩
   rw [fO] at h
   rw [CN,←FZ hb (fun y f=>hw y (by simp [f])) i9]
theorem M6 (hb:0<b)(hx:Wfb b xs)(hkx:k<xs.length)(hky:k<ys.length)(h:xs.getD k 0<ys.getD k 0):nb b (xs.take (k+1))<nb b (ys.take (k+1)):=by
 rw [jE b xs k hkx,jE b ys k hky];have h1:=vE hx k (hb:=hb)
 have h2:b^k*xs.getD k 0+b^k≤b^k*ys.getD k 0:=by
  have:=gT (b^k) (q7 h)
  rwa [sO] at this
 omega
theorem a2P (hkx:k<xs.length)(hky:k<ys.length)(h:xs.getD k 0=ys.getD k 0):fA (nb b (xs.take (k+1))) (nb b (ys.take (k+1)))=fA (nb b (xs.take k)) (nb b (ys.take k)):=by
 rw [jE b xs k hkx,jE b ys k hky,h];unfold fA;simp only [R0,QZ]
theorem MK (hb:2≤b)(h:(db b x).length<(db b y).length):x<y:=by
 refine pC (fun f=>?_);have:=vO hb f;omega
theorem Z1 (b:Nat)(xs:List Nat)(n:Nat):nb b (xs++dF n 0)=nb b xs:=by
 rw [xR,xP,iV,fN]
theorem IG (hw:Wf xs)(h:xs.length=0∨WB^(xs.length-1)≤nv xs):wd (nv xs)=xs:=by
 have h1:(wd (nv xs)).length=xs.length:=by
  have h2:=iT hw
  rcases h with h | h
  ·omega
  ·have f:WB^(xs.length-1)<WB^(wd (nv xs)).length:=lS h (nZ _)
   have:=(CJ (by decide:1<WB)).1 f
   omega
 rw [qD hw h1.symm,List.take_length]
theorem M9 (b:Nat)(es:List Nat)(p m:Nat):nb b ((es.drop p).take (m+1))=es.getD p 0+b*nb b ((es.drop (p+1)).take m):=by
 by_cases h:p<es.length
 ·rw [pF h,CN,nB,bL,cT h];rfl
 rw [List.drop_eq_nil_of_le i9,List.drop_eq_nil_of_le i9,bL,jT i9];simp [nb]
theorem M8 (b:Nat)(es:List Nat)(p m:Nat)(h:p≤es.length):nb b (es.take (p+m))=nb b (es.take p)+b^p*nb b ((es.drop p).take m):=by
 have e:es.take (p+m)=es.take p++(es.drop p).take m:=by rw [List.take_add]
 rw [e,xR,eB,iJ h]
theorem BF (h:i<k):(xs.take k).getD i 0=xs.getD i 0:=by
 simp only [bL,lK,if_pos h]
theorem vS (h:i<l.length)(x:Nat):(l.set i x).getD i 0=x:=by simp [bL,h]
theorem getD_set_ne (h:i≠j)(x:Nat):(l.set i x).getD j 0=l.getD j 0:=by simp [bL,List.getElem?_set_ne h]
theorem pQ (b:Nat)(h:i<l.length)(x:Nat):nb b ((l.set i x).take (i+1))=nb b (l.take i)+b^i*x:=by
 rw [jE b _ i (by rw [List.length_set];exact h),vS h,List.take_set_of_le (aU i)]
theorem xQ (b:Nat):∀{l:List Nat}{k:Nat},k<l.length→∀x,nb b (l.set k x)+b^k*l.getD k 0=nb b l+b^k*x
 | y::r,0,_,x=>by simp [nb];omega
 | y::r,k+1,h,x=>by
  have ih:=xQ b (l:=r) (k:=k) (by simpa using h) x
  simp only [List.set_cons_succ,nB,List.getD_cons_succ,dS]
  have e:b*(nb b (r.set k x)+b^k*r.getD k 0)=b*(nb b r+b^k*x):=by rw [ih]
  simp only [dE,←cU,dH b (b^k)] at e
  omega
theorem qM (h:k<l.length)(x:Nat):nv (l.set k x)+WB^k*l.getD k 0=nv l+WB^k*x:=by
 rw [xN,xN];exact xQ WB h x
theorem EO (h:i<l.length)(x:Nat):nv ((l.set i x).take (i+1))=nv (l.take i)+WB^i*x:=by
 rw [gA _ i (by rw [List.length_set];exact h),vS h,List.take_set_of_le (aU i)]
def mR (ds:List Nat)(i t:Nat):Nat:=nb 65536 ((ds.drop (max i (4*t))).take (4*t+4-max i (4*t)))
theorem RT:mR ds j (j/4)=ds.getD j 0+65536*mR ds (j+1) (j/4):=by
 unfold mR;have h:max j (4*(j/4))=j:=by omega
 have f:max (j+1) (4*(j/4))=j+1:=by omega
 rw [h,f,show 4*(j/4)+4-j=(4*(j/4)+4-(j+1))+1 from by omega,M9]
theorem RU {t:Nat}(h:t≠j/4):mR ds j t=mR ds (j+1) t:=by
 unfold mR;rcases kQ t (j/4) with h1 | h1
 ·rw [show 4*t+4-max j (4*t)=0 from by omega,show 4*t+4-max (j+1) (4*t)=0 from by omega];simp
 rw [show max j (4*t)=max (j+1) (4*t) from by omega]
theorem HW (hw:Wfb 65536 ds)(i t:Nat):mR ds i t<WB:=by
 unfold mR;have h1:=vE (GL hw (max i (4*t))) (4*t+4-max i (4*t)) (hb:=i9);have h2:65536^(4*t+4-max i (4*t))≤65536^4:=fZ i9 i9;have f:WB=65536^4:=by decide
 omega
theorem RV (hl:∀t,t<l.length→l.getD t 0=mR ds 0 t)(hn:ds.length≤4*l.length)(hm:4*l.length<ds.length+4):nv l=nb 65536 ds:=by
 have key:∀t,t≤l.length→nv (l.take t)=nb 65536 (ds.take (4*t)):=by
  intro t
  induction t with
  | zero=>intro _;rfl
  | succ t ih=>
   intro ht
   rw [gA l t i9,ih i9,hl t i9,show 4*(t+1)=4*t+4 from by omega,M8 65536 ds (4*t) 4 i9]
   unfold mR
   rw [show max 0 (4*t)=4*t from by omega,show 4*t+4-4*t=4 from by omega,show WB=65536^4 from by decide,←Nat.pow_mul]
 have h:=key l.length (aU _);rwa [List.take_length,List.take_of_length_le hn] at h
end
section
open Go.RowKit
theorem j9:(Tryz.prog.info? 43).map (fun i=>(i.zero,i.size,i.bytes))=some (some (t9 0),1,8):=by kernel_rfl
theorem DN:(Tryz.prog.info? 43).map (·.size)=some 1:=by kernel_rfl
def jR (w:a6)(m:Nat)(e:eF)(w':a6):Prop:=
 ∃A n cap,e= .returned (up A n cap)∧Hid (n=(wd m).length)∧Rd w' A n cap (wd m)∧Own w' w.heap.size 43 1 A n cap ((wd m).map bF)∧Ext w w'
theorem uD (hg:w.heap.size≤g)(hb:Bk w' g 43 (ys.map bF))(hl:ys.length=cap)(hn:n≤cap)(hc:cap≤maxLen)(hy:ys.take n=wd m)(hx:Ext w w'):jR w m (.returned (up (some ⟨g,0,none⟩) n cap)) w':=by
 have f:n=(wd m).length:=by rw [←hy,eB];omega
 have h:Own w' w.heap.size 43 1 (some ⟨g,0,none⟩) n cap ((wd m).map bF):=
  Own.mk_ hg hb hn hc (by simpa using hl) (by rw [eH,←m6,hy])
 exact⟨_,_,_,rfl,f,h.rd (qX m),h,hx⟩
theorem QP (hm:m=0)(hx:Ext w w'):jR w m (.returned (up none 0 0)) w':=by
 subst hm;exact⟨none,0,0,rfl,rfl,Rd.nil w',Own.nil w' _ _ _,hx⟩
def a3Z (xs:List Nat)(n:Nat)(w:a6)(e:eF)(w':a6):Prop:=
 ∃m:Nat,Hid (m=(wd (nv xs)).length)∧m≤n∧e= .returned (no (m:Int))∧w=w'
theorem mE (hx:Rd w A n cap xs)(hl:n≤1099511627776:=by omega):aQ aM 119 #[up A n cap] w (a3Z xs n w):=by
 have hlen:=Lib.hid hx.len
 go_enter Tryz.func119,Tryz.ntmps119
 go_wp2_with fail
 go_loop [3] (fun u=>∃k:Nat,k≤n∧u= no (k:Int)∧nv (xs.take k)=nv xs) (fun u=>(intOf u).toNat)
 case atStart=>exact⟨n,aU _,rfl,by rw [←hlen.out,List.take_length]⟩
 case round=>
  obtain⟨k,hk,rfl,hv⟩:=hrel
  have HV:=Lib.hid hv
  clear hv
  by_cases h0:0<k
  ·obtain⟨a,x,rfl,hxk,hxb,hc⟩:=hx.get (i:=k-1) i9
   by_cases hz:x=0
   ·subst hz
    go_wp2_with fail
    go_round
    case rel=>
     refine⟨k-1,by omega,by congr 1;omega,?_⟩
     rw [←HV.out,←tG xs (k-1) (by rw [hlen.out];omega) hxk.out,lJ h0]
    case measure=>simp [intOf];omega
   ·have hzb:((x:Int)==0)=false:=by simp;omega
    go_wp2_with fail
    go_ret
    refine⟨k,?_,hk,rfl,rfl⟩
    have:=wW (k:=k) hx.wf (by rw [hlen.out];exact hk) HV.out (cN (by rw [hxk.out];exact hz))
    show k=_
    rw [this,eB,hlen.out];omega
  ·go_wp2_with fail
   go_ret
   refine⟨k,?_,hk,rfl,rfl⟩
   have:=wW (k:=k) hx.wf (by rw [hlen.out];exact hk) HV.out (cJ i9)
   show k=_
   rw [this,eB,hlen.out];omega
theorem Z2 (hx:Rd w A n cap xs)(hl:n≤1099511627776):aQ aM 122 #[up A n cap] w (jR w (nv xs)):=by
 have hlen:=Lib.hid hx.len
 go_enter Tryz.func122,Tryz.ntmps122
 go_wp2_with fail
 refine (mE hx (hl:=hl)).mono ?_;rintro e w' ⟨m,hm,hmn,rfl,rfl⟩;have hmk:=mB (P:=aM) Tryz.underlying22 j9 J yd (m:Int) i9 i9;simp only [jB] at hmk
 go_wp2_with ((with_reducible refine dU (some 11) ?_);refine zF J (.tmp 9) (.tmp 10) 22 22 J J J Tryz.underlying22 DN (Bk.new' _ _ _) (hx.rv.ext ((Ext.refl _).alloc _)) (fun _=>rfl) ?fit (CD xs) ?_;rotate_left;intro w1 hb1 hu1)
 case fit=>simp [zE]
 go_ret
 have e:wd (nv xs)=xs.take m:=by
  have h1:=hx.wf
  have h2:m≤xs.length:=by rw [hlen.out];exact hmn
  exact qD h1 hm.out
 refine uD (g:=w.heap.size) (ys:=xs.take m) (aU _) ?_ ?_ (aU _) (by rw [eV];omega) ?_ (hu1.ext ((Ext.refl w).alloc _) (aU _))
 ·have h:=hb1;rw [zE,kG,←m6,DM,UM _ _ (by rw [List.length_replicate,eB,hlen.out];omega)] at h;exact h
 ·rw [eB,hlen.out];omega
 rw [List.take_take,Nat.min_self,e]
theorem kY (hx:Rd w A n cap xs)(hl:n≤1099511627776:=by omega):aQ aM 94 #[up A n cap] w (jR w (nv xs)):=by
 go_enter Tryz.func94,Tryz.ntmps94
 go_wp2_with fail
 refine (Z2 hx hl).mono ?_;rintro e w' ⟨A1,n1,c1,rfl,h⟩
 go_wp2_with fail
 go_ret
 exact⟨A1,n1,c1,rfl,h⟩
def yS (a b:Nat)(w:a6)(e:eF)(w':a6):Prop:=
 ∃c:Int,Hid (c=fA a b)∧ -1≤c∧c≤1∧e= .returned (no c)∧Ext w w'
theorem q6 {a:Nat}{c:Int}(h:fA a b=c)(hx:Ext w w'):yS a b w (.returned (no c)) w':=by
 subst h;exact⟨_,rfl,(PT a b).1,(PT a b).2,rfl,hx⟩
theorem yn{a b:World}(h:Ext a b:=by repeat (first | exact Ext.refl _ | assumption | apply Ext.drewN | apply Ext.drew | apply Ext.alloc)):Ext a b:=h
theorem vF (hx:Rd w A n cap xs)(hy:Rd w B n' cap' ys)(hl:n≤1099511627776:=by omega)(hl':n'≤1099511627776:=by omega):aQ aM 108 #[up A n cap,up B n' cap'] w (yS (nv xs) (nv ys) w):=by
 have hlx:=Lib.hid hx.len;have hly:=Lib.hid hy.len
 go_enter Tryz.func108,Tryz.ntmps108
 go_wp2_with fail
 refine (mE hx (hl:=hl)).mono ?_;rintro e w' ⟨m,hm,hmn,rfl,rfl⟩
 go_wp2_with fail
 refine (mE hy (hl:=hl')).mono ?_;rintro e w' ⟨k,hk,hkn,rfl,rfl⟩;rcases Nat.lt_trichotomy m k with hlt | rfl | hgt
 ·have h1:((m:Int) != (k:Int))=true:=by simp;omega
  go_wp2_with fail
  go_ret
  exact q6 (C3 (MJ (by rw [←hm.out,←hk.out];exact hlt))) bN
 ·have h1:((m:Int) != (m:Int))=false:=by simp
  go_wp2_with fail
  go_loopw [7] (fun u wr=>∃i:Nat,i≤m∧u= no ((i:Int)-1)∧Hid (fA (nv (xs.take i)) (nv (ys.take i))=fA (nv xs) (nv ys))∧Ext w wr) (fun u wr=>(intOf u+1).toNat)
  case atStart=>exact⟨m,aU _,rfl,(show _=_ by rw [rP hx.wf hm.out,rP hy.wf hk.out]),Ext.refl w⟩
  case round=>
   obtain⟨i,hi,rfl,hv,hext⟩:=hrel
   by_cases h0:0<i
   ·obtain⟨a,x,rfl,hxk,hxb,hc⟩:=(hx.ext hext).get (i:=i-1) i9
    obtain⟨b,y,rfl,hyk,hyb,hd⟩:=(hy.ext hext).get (i:=i-1) i9
    have hi':i-1+1=i:=by omega
    have hcast:((i-1:Nat):Int)=(i:Int)-1:=by omega
    have b1:(0:Int)≤(i:Int)-1:=by omega
    rcases Nat.lt_trichotomy x y with hlt | rfl | hgt
    ·go_wp2_with fail
     go_quiet (fail)
     go_wp2_with fail
     go_ret
     refine q6 ?_ yn
     rw [←hv.out,←hi']
     exact C3 (LX hx.wf (by rw [hlx.out];omega) (by rw [hly.out];omega) (by rw [hxk.out,hyk.out];exact hlt))
    ·go_wp2_with fail
     go_quiet (fail)
     go_wp2_with fail
     go_quiet (fail)
     go_wp2_with fail
     go_roundw
     case rel=>
      refine⟨i-1,by omega,by congr 1;omega,?_,yn⟩
      show _=_
      rw [←hv.out,←a2Q (k:=i-1) (by rw [hlx.out];omega) (by rw [hly.out];omega) (by rw [hxk.out,hyk.out]),hi']
     case measure=>simp [intOf];omega
    ·go_wp2_with fail
     go_quiet (fail)
     go_wp2_with fail
     go_quiet (fail)
     go_wp2_with fail
     go_ret
     refine q6 ?_ yn
     rw [←hv.out,←hi']
     exact C4 (LX hy.wf (by rw [hly.out];omega) (by rw [hlx.out];omega) (by rw [hxk.out,hyk.out];exact hgt))
   ·go_wp2_with fail
    go_ret
    refine q6 ?_ hext
    rw [←hv.out,show i=0 from by omega]
    simp [PS]
 have h1:((m:Int) != (k:Int))=true:=by simp;omega
 go_wp2_with fail
 go_ret
 exact q6 (C4 (MJ (by rw [←hm.out,←hk.out];exact hgt))) bN
theorem QG {s:Nat}(hli:i<l.length)(hxi:i<xs.length)(hmy:m≤ys.length)(h:nv (l.take i)+WB^i*c=nv (xs.take i)+nv (ys.take (min i m)))(hx:xs.getD i 0=x)(hy:(if i<m then ys.getD i 0 else 0)=y)(hs:s+WB*d=x+y+c):nv ((l.set i s).take (i+1))+WB^(i+1)*d=nv (xs.take (i+1))+nv (ys.take (min (i+1) m)):=by
 have o:(l.set i s).getD i 0=s:=by simp [bL,hli]
 have F:(l.set i s).take i=l.take i:=by rw [List.take_set_of_le (aU i)]
 rw [gA _ i (by rw [List.length_set];exact hli),o,F,gA xs i hxi,hx]
 have G:nv (ys.take (min (i+1) m))=nv (ys.take (min i m))+WB^i*y:=by
  by_cases f:i<m
  ·rw [if_pos f] at hy
   rw [iJ i9,iJ i9,gA ys i i9,hy]
  ·rw [if_neg f] at hy
   rw [Nat.min_eq_right i9,Nat.min_eq_right i9,←hy,iV,fN]
 rw [G,dS,cU];have E:WB^i*(s+WB*d)=WB^i*(x+y+c):=by rw [hs]
 simp only [dE] at E;omega
def a38 (w:a6)(S:Nat)(u v:aF)(wc:a6):Prop:=
 ∃A n cap xs B n' cap' ys,u= up A n cap∧v= up B n' cap'∧Rd wc A n cap xs∧Rd wc B n' cap' ys∧n≤1099511627775∧n'≤1099511627775∧Hid (nv xs+nv ys=S)∧(wd (nv ys)).length≤(wd (nv xs)).length∧Ext w wc
theorem B6 (hx:Rd w A n cap xs)(hl:n≤1099511627775)(hy:Rd w B n' cap' ys)(hl':n'≤1099511627775):aQ aM 109 #[up A n cap,up B n' cap'] w (jR w (nv xs+nv ys)):=by
 go_enter Tryz.func109,Tryz.ntmps109
 go_upto_if 15 with (fail)
 refine (mE hx).mono ?_;rintro e w' ⟨m,hm,hmn,rfl,rfl⟩
 go_upto_if 15 with (fail)
 refine (mE hy).mono ?_;rintro e w' ⟨k,hk,hkn,rfl,rfl⟩
 go_upto_if 15 with (fail)
 go_cut [0,1] (fun u v wc=>a38 w (nv xs+nv ys) u v wc)
 case first=>
  by_cases hlt:m<k
  ·go_wp2_with fail
   go_meet
   case rel=>exact⟨B,n',cap',ys,A,n,cap,xs,rfl,rfl,hy,hx,hl',hl,Nat.add_comm _ _,by rw [←hm.out,←hk.out];omega,Ext.refl w⟩
  ·go_wp2_with fail
   go_meet
   case rel=>exact⟨A,n,cap,xs,B,n',cap',ys,rfl,rfl,hx,hy,hl,hl',rfl,by rw [←hm.out,←hk.out];omega,Ext.refl w⟩
 case rest=>
  clear hm hk hmn hkn hx hy hl hl'
  obtain⟨A,n,cap,xs,B,n',cap',ys,rfl,rfl,hx,hy,hl,hl',hS,hle,hext⟩:=hcut
  go_wp2_with fail
  refine (mE hx).mono ?_
  rintro e w' ⟨m,hm,hmn,rfl,rfl⟩
  go_wp2_with fail
  refine (mE hy).mono ?_
  rintro e w' ⟨k,hk,hkn,rfl,rfl⟩
  have hkm:k≤m:=by rw [hm.out,hk.out];exact hle
  have hlx:=Lib.hid hx.len
  have hly:=Lib.hid hy.len
  have hmk:=mB (P:=aM) Tryz.underlying22 j9 J yd ((m:Int)+1) i9 i9
  have et:((m:Int)+1).toNat=m+1:=by omega
  rw [et] at hmk
  clear et
  go_wp2_with fail
  clear hmk
  obtain⟨g,hg⟩:∃g,wc.heap.size=g:=⟨_,rfl⟩
  rw [hg]
  obtain⟨wa,hwa⟩:∃wa,wc.alloc (.cells (zc (.int .u64 0) (m+1)) 43)=wa:=⟨_,rfl⟩
  rw [hwa]
  have hbk:Bk wa g 43 ((dF (m+1) 0).map bF):=by
   rw [←hwa,←hg,←kG];exact Bk.new' _ _ _
  have hea:Ext wc wa:=by rw [←hwa];exact (Ext.refl wc).alloc _
  have hgs:w.heap.size≤g:=by rw [←hg];exact hext.size
  have hgc:wc.heap.size≤g:=by rw [hg];exact aU _
  clear hg hwa
  go_loopw [26,8] (fun u v wr=>∃(i c:Nat) (l:List Nat),i≤m∧c≤1∧u= no (i:Int)∧v= t9 (c:Int)∧Hid (l.length=m+1)∧Wf l∧Bk wr g 43 (l.map bF)∧
   Hid (nv (l.take i)+WB^i*c=nv (xs.take i)+nv (ys.take (min i k)))∧Ext wc wr) (fun u v wr=>m-(intOf u).toNat)
  case atStart=>exact⟨0,0,_,bX _,bX _,rfl,rfl,List.length_replicate,oZ _,hbk,by simp [Hid,nv],hea⟩
  case round=>
   obtain⟨i,c,l,hi,hc,rfl,rfl,hll,hwl,hb,hv,hr⟩:=hrel
   clear hbk hea
   by_cases him:i<m
   ·obtain⟨a,x,rfl,hxk,hxb,hcx⟩:=(hx.ext hr).get (i:=i) i9
    obtain⟨o,ho,_,hco⟩:=hb.word hwl (i:=i) (by rw [hll.out];omega)
    have hfr:=hb.frozen i
    by_cases hik:i<k
    ·obtain⟨b,y,rfl,hyk,hyb,hcy⟩:=(hy.ext hr).get (i:=i) i9
     go_wp2_with ((with_reducible refine dU (some 45) ?_);refine I4 J (.tmp 42) (.tmp 43) (.tmp 44) J x y c J J J hc hxb hyb ?_;intro s d hs hsb hd)
     go_roundw
     case rel=>exact⟨i+1,d,_,by omega,hd,by go_num,rfl,by show _=_;rw [List.length_set];exact hll.out,j0 hwl i (by rw [dJ];omega),by rw [←eM];exact hb.set i _,
      QG (by rw [hll.out];omega) (by rw [hlx.out];omega) (by rw [hly.out];omega) hv.out hxk.out (by rw [if_pos hik];exact hyk.out) hs.out,hr.setCell hgc _⟩
     case measure=>simp [intOf];omega
    ·go_wp2_with ((with_reducible refine dU (some 45) ?_);refine I4 J (.tmp 42) (.tmp 43) (.tmp 44) J x 0 c J J J hc hxb i9 ?_;intro s d hs hsb hd)
     go_roundw
     case rel=>exact⟨i+1,d,_,by omega,hd,by go_num,rfl,by show _=_;rw [List.length_set];exact hll.out,j0 hwl i (by rw [dJ];omega),by rw [←eM];exact hb.set i _,
      QG (by rw [hll.out];omega) (by rw [hlx.out];omega) (by rw [hly.out];omega) hv.out hxk.out (by rw [if_neg hik]) hs.out,hr.setCell hgc _⟩
     case measure=>simp [intOf];omega
   ·obtain rfl:i=m:=by omega
    obtain⟨o,ho,_,hco⟩:=hb.word hwl (i:=i) (by rw [hll.out];omega)
    have hfr:=hb.frozen i
    have hb2:=hb.set i (t9 (c:Int))
    rw [eM] at hb2
    have hll2:Hid ((l.set i c).length=i+1):=by show _=_;rw [List.length_set];exact hll.out
    have hwl2:Wf (l.set i c):=j0 hwl i (by rw [dJ];omega)
    have hr2:Rd (wr.setCell ⟨g,i,none⟩ (t9 (c:Int))) (some ⟨g,0,none⟩) (i+1) (i+1) (l.set i c):=by
     have:=hb2.rd hwl2 (o:=0) (n:=i+1) (cap:=i+1) (aU _) (by rw [hll2.out];omega) (by rw [eV];omega)
     rwa [iN,List.take_of_length_le (by rw [hll2.out];omega)] at this
    have hval:Hid (nv (l.set i c)=nv xs+nv ys):=by
     show _=_
     have e1:(l.set i c).getD i 0=c:=by
      have:=hll.out
      simp [bL,this]
     have e2:(l.set i c).take i=l.take i:=by rw [List.take_set_of_le (aU i)]
     have e3:=gA (l.set i c) i (by rw [hll2.out];omega)
     rw [e1,e2,List.take_of_length_le (by rw [hll2.out];omega),hv.out,Nat.min_eq_right hkm] at e3
     rw [e3,rP hx.wf hm.out,rP hy.wf hk.out]
    go_wp2_with fail
    refine (mE hr2).mono ?_
    rintro e w' ⟨q,hq,hqn,rfl,rfl⟩
    go_wp2_with fail
    go_ret
    rw [←hS.out,←hval.out]
    exact uD (ys:=l.set i c) hgs hb2 hll2.out hqn (by rw [eV];omega) (qD hwl2 hq.out).symm ((hext.trans hr).setCell hgs _)
def yN (w:a6)(m:Nat)(er:Int)(e:eF)(w':a6):Prop:=
 ∃A n cap,e= .returned (.tuple #[up A n cap,no er])∧Hid (n=(wd m).length)∧Rd w' A n cap (wd m)∧Own w' w.heap.size 43 1 A n cap ((wd m).map bF)∧Ext w w'
theorem GQ (h:jR w m (.returned (up A n cap)) w'):yN w m er (.returned (.tuple #[up A n cap,no er])) w':=by
 obtain⟨A',n',c',he,r⟩:=h;cases he;exact⟨_,_,_,rfl,r⟩
theorem J5 {s:Nat}(hli:i<l.length)(hxi:i<xs.length)(hmy:m≤ys.length)(h:nv (l.take i)+nv (ys.take (min i m))=nv (xs.take i)+WB^i*c)(hx:xs.getD i 0=x)(hy:(if i<m then ys.getD i 0 else 0)=y)(hs:s+y+c=x+WB*d):nv ((l.set i s).take (i+1))+nv (ys.take (min (i+1) m))=nv (xs.take (i+1))+WB^(i+1)*d:=by
 have o:(l.set i s).getD i 0=s:=by simp [bL,hli]
 have F:(l.set i s).take i=l.take i:=by rw [List.take_set_of_le (aU i)]
 rw [gA _ i (by rw [List.length_set];exact hli),o,F,gA xs i hxi,hx]
 have G:nv (ys.take (min (i+1) m))=nv (ys.take (min i m))+WB^i*y:=by
  by_cases f:i<m
  ·rw [if_pos f] at hy
   rw [iJ i9,iJ i9,gA ys i i9,hy]
  ·rw [if_neg f] at hy
   rw [Nat.min_eq_right i9,Nat.min_eq_right i9,←hy,iV,fN]
 rw [G,dS,cU];have E:WB^i*(s+y+c)=WB^i*(x+WB*d):=by rw [hs]
 simp only [dE] at E;omega
theorem ES (hx:Rd w A n cap xs)(hy:Rd w B n' cap' ys)(hle:nv ys≤nv xs)(hl:n≤1099511627775:=by omega)(hl':n'≤1099511627775:=by omega):aQ aM 110 #[up A n cap,up B n' cap'] w (yN w (nv xs-nv ys) 0):=by
 go_enter Tryz.func110,Tryz.ntmps110
 go_wp2_with fail
 refine (vF hx hy).mono ?_;rintro e wc ⟨c,hc,hc1,hc2,rfl,hx1⟩;have hneg:¬c<0:=by rw [hc.out,nH];omega
 go_wp2_with fail
 refine (mE (hx.ext hx1)).mono ?_;rintro e w' ⟨m,hm,hmn,rfl,rfl⟩
 go_wp2_with fail
 refine (mE (hy.ext hx1)).mono ?_;rintro e w' ⟨k,hk,hkn,rfl,rfl⟩;have hkm:k≤m:=by rw [hm.out,hk.out];exact iP hle
 have hlx:=Lib.hid hx.len;have hly:=Lib.hid hy.len;have hmk:=mB (P:=aM) Tryz.underlying22 j9 J yd (m:Int) i9 i9;rw [jB] at hmk
 go_wp2_with fail
 clear hmk;obtain⟨g,hg⟩:∃g,wc.heap.size=g:=⟨_,rfl⟩;rw [hg];obtain⟨wa,hwa⟩:∃wa,wc.alloc (.cells (zc (.int .u64 0) m) 43)=wa:=⟨_,rfl⟩;rw [hwa]
 have hbk:Bk wa g 43 ((dF m 0).map bF):=by
  rw [←hwa,←hg,←kG];exact Bk.new' _ _ _
 have hea:Ext wc wa:=by rw [←hwa];exact (Ext.refl wc).alloc _
 have hgs:w.heap.size≤g:=by rw [←hg];exact hx1.size
 have hgc:wc.heap.size≤g:=by rw [hg];exact aU _
 clear hg hwa hc hneg hc1 hc2
 go_loopw [23,9] (fun u v wr=>∃(i c:Nat) (l:List Nat),i≤m∧c≤1∧u= no (i:Int)∧v= t9 (c:Int)∧Hid (l.length=m)∧Wf l∧Bk wr g 43 (l.map bF)∧
  Hid (nv (l.take i)+nv (ys.take (min i k))=nv (xs.take i)+WB^i*c)∧Ext wc wr) (fun u v wr=>m-(intOf u).toNat)
 case atStart=>exact⟨0,0,_,bX _,bX _,rfl,rfl,List.length_replicate,oZ _,hbk,by simp [Hid,nv],hea⟩
 case round=>
  obtain⟨i,c,l,hi,hc,rfl,rfl,hll,hwl,hb,hv,hr⟩:=hrel
  clear hbk hea
  by_cases him:i<m
  ·obtain⟨a,x,rfl,hxk,hxb,hcx⟩:=((hx.ext hx1).ext hr).get (i:=i) i9
   obtain⟨o,ho,_,hco⟩:=hb.word hwl (i:=i) (by rw [hll.out];omega)
   have hfr:=hb.frozen i
   by_cases hik:i<k
   ·obtain⟨b,y,rfl,hyk,hyb,hcy⟩:=((hy.ext hx1).ext hr).get (i:=i) i9
    go_wp2_with ((with_reducible refine dU (some 42) ?_);refine I2 J (.tmp 39) (.tmp 40) (.tmp 41) J x y c J J J hc hxb hyb ?_;intro s d hs hsb hd)
    go_roundw
    case rel=>exact⟨i+1,d,_,by omega,hd,by go_num,rfl,by show _=_;rw [List.length_set];exact hll.out,j0 hwl i (by rw [dJ];omega),by rw [←eM];exact hb.set i _,
     J5 (by rw [hll.out];omega) (by rw [hlx.out];omega) (by rw [hly.out];omega) hv.out hxk.out (by rw [if_pos hik];exact hyk.out) hs.out,hr.setCell hgc _⟩
    case measure=>simp [intOf];omega
   ·go_wp2_with ((with_reducible refine dU (some 42) ?_);refine I2 J (.tmp 39) (.tmp 40) (.tmp 41) J x 0 c J J J hc hxb i9 ?_;intro s d hs hsb hd)
    go_roundw
    case rel=>exact⟨i+1,d,_,by omega,hd,by go_num,rfl,by show _=_;rw [List.length_set];exact hll.out,j0 hwl i (by rw [dJ];omega),by rw [←eM];exact hb.set i _,
     J5 (by rw [hll.out];omega) (by rw [hlx.out];omega) (by rw [hly.out];omega) hv.out hxk.out (by rw [if_neg hik]) hs.out,hr.setCell hgc _⟩
    case measure=>simp [intOf];omega
  ·obtain rfl:i=m:=by omega
   have hr2:Rd wr (some ⟨g,0,none⟩) i i l:=by
    have:=hb.rd hwl (o:=0) (n:=i) (cap:=i) (aU _) (by rw [hll.out];omega) (by rw [eV];omega)
    rwa [iN,List.take_of_length_le (by rw [hll.out];omega)] at this
   have hval:Hid (nv l=nv xs-nv ys):=by
    show _=_
    have e:=hv.out
    rw [Nat.min_eq_right hkm,rP hx.wf hm.out,rP hy.wf hk.out,List.take_of_length_le (by rw [hll.out];omega)] at e
    have hlt:nv l<WB^i:=by have:=kH hwl;rwa [hll.out] at this
    by_cases h0:c=0
    ·rw [h0,iV] at e;omega
    ·have hc1:c=1:=by omega
     rw [hc1,eH] at e;omega
   go_wp2_with fail
   refine (mE hr2).mono ?_
   rintro e w' ⟨q,hq,hqn,rfl,rfl⟩
   go_wp2_with fail
   go_ret2
   rw [←hval.out]
   exact GQ (uD (ys:=l) hgs hb hll.out hqn (by rw [eV];omega) (qD hwl hq.out).symm (hx1.trans hr))
theorem a3q (hw:Wf xs)(hm:m=(wd (nv xs)).length)(h0:0<m)(hx:xs.getD (m-1) 0=x):x≠0∧64*(m-1)+dR x=dR (nv xs):=by
 have e:=qD hw hm;have o:nv xs≠0:=fun h=>by rw [h,pM] at hm;simp at hm;omega
 have F:m≤xs.length:=by rw [hm];exact iT hw
 have G:nv xs=nv (xs.take (m-1))+WB^(m-1)*x:=by
  rw [←rP hw hm,←hx,←gA xs (m-1) i9,lJ h0]
 have E:=nX hw (m-1)
 have f:x≠0:=by
  rintro rfl
  have h1:=LG o
  rw [←hm] at h1
  rw [iV] at G
  omega
 refine⟨f,(GD ?_ (cN ?_)).symm⟩
 ·have h1:=rR x;rw [eS,Nat.pow_mul,←nJ]
  have h2:WB^(m-1)*x+WB^(m-1)≤WB^(m-1)*2^dR x:=by
   have:=gT (WB^(m-1)) (q7 h1)
   rwa [sO] at this
  omega
 have h1:=C6 f;have hb:dR x≠0:=fun h=>f (pZ.1 h);rw [Nat.add_sub_assoc i9,eS,Nat.pow_mul,←nJ];have:=gT (WB^(m-1)) h1;omega
def a33 (k:Nat)(w:a6)(e:eF)(w':a6):Prop:=∃n:Nat,Hid (n=k)∧e= .returned (no (n:Int))∧Ext w w'
theorem B5 (hx:Rd w A n cap xs)(hl:n≤1099511627775):aQ aM 90 #[up A n cap] w (a33 (dR (nv xs)) w):=by
 go_enter Tryz.func90,Tryz.ntmps90
 go_wp2_with fail
 refine (mE hx).mono ?_;rintro e w' ⟨m,hm,hmn,rfl,rfl⟩;by_cases h0:0<m
 ·obtain⟨a,x,rfl,hxk,hxb,hcx⟩:=hx.get (i:=m-1) i9;have hb:=Lib.hid (a3q hx.wf hm.out h0 hxk.out);have b0:((m:Int)==0)=false:=by simp;omega
  go_wp2_with fail
  refine (bits_Len64 x hxb _).mono ?_;rintro e w' ⟨q,hq,hq64,rfl,rfl⟩
  go_wp2_with fail
  go_ret
  refine⟨64*(m-1)+q,?_,?_,Ext.refl w⟩
  ·show _=_;rw [hq.out];exact hb.out.2
  exact WG i9
 obtain rfl:m=0:=by omega
 go_wp2_with fail
 go_ret
 refine⟨0,?_,rfl,Ext.refl w⟩;show _=_;rw [(oA.1 hm.out.symm),GC]
def QN (A:Option a7)(xs:List Nat)(w:a6)(e:eF)(w':a6):Prop:=
 ∃k:Nat,Hid (k=(wd (nv xs)).length)∧e= .returned (up A k k)∧Rd w A k k (wd (nv xs))∧w=w'
theorem vG (hx:Rd w A n cap xs)(hl:n≤1099511627776:=by omega):aQ aM 158 #[up A n cap] w (QN A xs w):=by
 have hlen:=Lib.hid hx.len;have hcap:=hx.rv.le;have hmax:=hx.rv.max;rw [eV] at hmax
 have fin:∀k,k≤n→k=(wd (nv xs)).length→QN A xs w (.returned (up A k k)) w:=by
  intro k hk h
  have h2:=hx.take hk (aU _) i9
  rw [←qD hx.wf h] at h2
  exact⟨k,h,rfl,h2,rfl⟩
 have FIN:=Lib.hid fin;clear fin
 go_enter Tryz.func158,Tryz.ntmps158
 go_wp2_with fail
 go_loop [3] (fun u=>∃k:Nat,k≤n∧u= no (k:Int)∧Hid (nv (xs.take k)=nv xs)) (fun u=>(intOf u).toNat)
 case atStart=>exact⟨n,aU _,rfl,(show _=_ by rw [←hlen.out,List.take_length])⟩
 case round=>
  obtain⟨k,hk,rfl,HV⟩:=hrel
  by_cases h0:0<k
  ·obtain⟨a,x,rfl,hxk,hxb,hc⟩:=hx.get (i:=k-1) i9
   by_cases hz:x=0
   ·subst hz
    go_wp2_with fail
    go_round
    case rel=>
     refine⟨k-1,by omega,gW,?_⟩
     show _=_
     rw [←HV.out,←tG xs (k-1) (by rw [hlen.out];omega) hxk.out,lJ h0]
    case measure=>simp [intOf];omega
   ·have hzb:((x:Int)==0)=false:=by simp;omega
    have hk0:¬k=0:=by omega
    go_wp2_with fail
    go_ret
    have:=wW (k:=k) hx.wf (by rw [hlen.out];exact hk) HV.out (cN (by rw [hxk.out];exact hz))
    exact FIN.out k hk (by rw [this,eB,hlen.out];omega)
  ·obtain rfl:k=0:=by omega
   go_wp2_with fail
   go_ret
   have:=wW (k:=0) hx.wf (bX _) HV.out (cJ J)
   exact FIN.out 0 hk (by rw [this,eB,hlen.out];omega)
def wG (g:Nat)(zs:List Nat)(v:Nat)(w:a6)(e:eF)(w':a6):Prop:=
 ∃zs',e= .returned (.tuple #[])∧Bk w' g 43 (zs'.map bF)∧Wf zs'∧Hid (zs'.length=zs.length)∧Hid (nv zs'=v)∧Upd g w w'
theorem QF {o z s:Nat}(hi:o+i<l.length)(h:nv l+WB^(o+i)*c=V+WB^o*nv (ys.take i))(hz:l.getD (o+i) 0=z)(hy:i<ys.length)(hyk:ys.getD i 0=y)(hs:s+WB*d=z+y+c):nv (l.set (o+i) s)+WB^(o+i+1)*d=V+WB^o*nv (ys.take (i+1)):=by
 have E:=qM hi s;rw [hz] at E;rw [gA ys i hy,hyk,dE,←cU (WB^o),←eS,dS,cU];have f:WB^(o+i)*(s+WB*d)=WB^(o+i)*(z+y+c):=by rw [hs]
 simp only [dE] at f;omega
theorem QE {z s:Nat}(hi:k<l.length)(h:nv l+WB^k*c=V)(hz:l.getD k 0=z)(hs:s+WB*d=z+c):nv (l.set k s)+WB^(k+1)*d=V:=by
 have o:=qM hi s;rw [hz] at o;rw [dS,cU];have f:WB^k*(s+WB*d)=WB^k*(z+c):=by rw [hs]
 simp only [dE] at f;omega
theorem B7 {o:Nat}(hz:Bk w g 43 (zs.map bF))(hwz:Wf zs)(hzl:zs.length=o+n)(hy:Rd w B m cap' ys)(hne:∀a,B=some a→0<m→a.block≠g)(hmn:m≤n)(hn:n≤1099511627776)(_ho:o≤1099511627776)(hv:nv zs+WB^o*nv ys<WB^(o+n)):aQ aM 160 #[up (some ⟨g,o,none⟩) n cap,up B m cap'] w (wG g zs (nv zs+WB^o*nv ys) w):=by
 have hly:=Lib.hid hy.len;have hlz:=Lib.hid hzl;have HV:=Lib.hid hv;clear hzl hv
 go_enter Tryz.func160,Tryz.ntmps160
 go_wp2_with fail
 go_loopw [9,4] (fun u v wr=>∃(i c:Nat) (l:List Nat),i≤m∧c≤1∧u= no (i:Int)∧v= t9 (c:Int)∧Hid (l.length=o+n)∧Wf l∧Bk wr g 43 (l.map bF)∧
  Hid (nv l+WB^(o+i)*c=nv zs+WB^o*nv (ys.take i))∧Upd g w wr) (fun u v wr=>m-(intOf u).toNat)
 case atStart=>exact⟨0,0,zs,bX _,bX _,rfl,rfl,hlz.out,hwz,hz,by simp [Hid,nv],Upd.refl _ _⟩
 case round=>
  obtain⟨i,c,l,hi,hc,rfl,rfl,hll,hwl,hb,hv,hr⟩:=hrel
  by_cases him:i<m
  ·obtain⟨a,y,rfl,hyk,hyb,hcy⟩:=(hy.upd hr (fun a ha=>hne a ha i9)).get (i:=i) i9
   obtain⟨z,hzk,hzb,hcz⟩:=hb.word hwl (i:=o+i) (by rw [hll.out];omega)
   have hfr:=hb.frozen (o+i)
   obtain⟨s,d,hs,hsb,hd,hadd⟩:=CA hc hzb hyb
   go_wp2_with fail
   go_region
   go_wp2_with fail
   go_roundw
   case rel=>exact⟨i+1,d,l.set (o+i) s,by omega,hd,by go_num,rfl,by show _=_;rw [List.length_set];exact hll.out,j0 hwl _ (by rw [dJ];omega),by rw [←eM];exact (hb.set _ _).drew,
    QF (by rw [hll.out];omega) hv.out hzk.out (by rw [hly.out];omega) hyk.out hs.out,(hr.setCell _ _).drew⟩
   case measure=>simp [intOf];omega
  ·obtain rfl:i=m:=by omega
   have hv1:Hid (nv l+WB^(o+i)*c=nv zs+WB^o*nv ys):=by
    show _=_
    rw [hv.out,List.take_of_length_le (by rw [hly.out];omega)]
   clear hv
   go_wp2_with fail
   obtain⟨wo,rfl⟩:∃wo:a6,wo=wr:=⟨_,rfl⟩
   go_loopw [6,4] (fun u v wr=>∃(j c:Nat) (l:List Nat),i≤j∧j≤n∧c≤1∧u= no (j:Int)∧v= t9 (c:Int)∧Hid (l.length=o+n)∧Wf l∧Bk wr g 43 (l.map bF)∧
    Hid (nv l+WB^(o+j)*c=nv zs+WB^o*nv ys)∧Upd g w wr) (fun u v wr=>n-(intOf u).toNat)
   case atStart=>exact⟨i,c,l,aU _,hmn,hc,rfl,rfl,hll.out,hwl,hb,hv1.out,hr⟩
   case round=>
    obtain⟨j,c2,l2,hij,hjn,hc2,rfl,rfl,hl2,hw2,hb2,hv2,hr2⟩:=hrel
    clear hll hwl hb hv1 hr
    by_cases hc0:c2=0
    ·subst hc0
     have b0:((0:Int) != 0)=false:=rfl
     go_wp2_with fail
     go_end0
     have h:=hv2.out
     rw [iV,fN] at h
     exact⟨l2,rfl,hb2,hw2,(show _=_ by rw [hl2.out,hlz.out]),h,hr2⟩
    ·obtain rfl:c2=1:=by omega
     have hjn':j<n:=by
      refine pC (fun hle=>?_)
      obtain rfl:j=n:=by omega
      have h:=hv2.out
      have:=HV.out
      rw [eH] at h
      omega
     obtain⟨z,hzk,hzb,hcz⟩:=hb2.word hw2 (i:=o+j) (by rw [hl2.out];omega)
     have hfr:=hb2.frozen (o+j)
     obtain⟨s,d,hs,hsb,hd,hadd⟩:=a3S hzb
     have b1:((1:Int) != 0)=true:=rfl
     go_wp2_with fail
     go_roundw
     case rel=>exact⟨j+1,d,l2.set (o+j) s,by omega,by omega,hd,by go_num,rfl,by show _=_;rw [List.length_set];exact hl2.out,j0 hw2 _ (by rw [dJ];omega),by rw [←eM];exact (hb2.set _ _),
      QE (by rw [hl2.out];omega) hv2.out hzk.out hs.out,(hr2.setCell _ _)⟩
     case measure=>simp [intOf];omega
theorem J3 {z s Y':Nat}(hi:i<l.length)(h:nv l+Y=V+WB^i*c)(hz:l.getD i 0=z)(hY:Y'=Y+WB^i*y)(hs:s+y+c=z+WB*d):nv (l.set i s)+Y'=V+WB^(i+1)*d:=by
 have o:=qM hi s;rw [hz] at o;rw [dS,cU,hY];have f:WB^i*(s+y+c)=WB^i*(z+WB*d):=by rw [hs]
 simp only [dE] at f;omega
theorem MD (hz:Bk w g 43 (zs.map bF))(hwz:Wf zs)(hzl:zs.length=n)(hy:Rd w B m cap' ys)(hne:∀a,B=some a→0<m→a.block≠g)(hmn:m≤n)(hn:n≤1099511627776)(hv:nv ys≤nv zs):aQ aM 180 #[up (some ⟨g,0,none⟩) n cap,up B m cap'] w (wG g zs (nv zs-nv ys) w):=by
 have hly:=Lib.hid hy.len;have hlz:=Lib.hid hzl;have HV:=Lib.hid hv;clear hzl hv
 go_enter Tryz.func180,Tryz.ntmps180
 go_wp2_with fail
 go_loopw [9,4] (fun u v wr=>∃(i c:Nat) (l:List Nat),i≤n∧c≤1∧u= no (i:Int)∧v= t9 (c:Int)∧Hid (l.length=n)∧Wf l∧Bk wr g 43 (l.map bF)∧
  Hid (nv l+nv (ys.take i)=nv zs+WB^i*c)∧Upd g w wr) (fun u v wr=>n-(intOf u).toNat)
 case atStart=>exact⟨0,0,zs,bX _,bX _,rfl,rfl,hlz.out,hwz,hz,by simp [Hid,nv],Upd.refl _ _⟩
 case round=>
  obtain⟨i,c,l,hi,hc,rfl,rfl,hll,hwl,hb,hv,hr⟩:=hrel
  have fin:i=n∨(m≤i∧c=0)→wG g zs (nv zs-nv ys) w (.returned (.tuple #[])) wr:=by
   intro h
   have e:=hv.out
   rw [List.take_of_length_le (by rw [hly.out];omega)] at e
   have hlt:nv l<WB^n:=by have:=kH hwl;rwa [hll.out] at this
   refine⟨l,rfl,hb,hwl,(show _=_ by rw [hll.out,hlz.out]),?_,hr⟩
   show _=_
   have h2:=HV.out
   by_cases h0:c=0
   ·rw [h0,iV] at e;omega
   ·have hc1:c=1:=by omega
    have hin:i=n:=by omega
    rw [hc1,eH,hin] at e;omega
  have FIN:=Lib.hid fin
  clear fin
  by_cases him:i<n
  ·obtain⟨z,hzk,hzb,hcz⟩:=hb.word hwl (i:=i) (by rw [hll.out];omega)
   have hfr:=hb.frozen i
   by_cases hiy:i<m
   ·obtain⟨a,y,rfl,hyk,hyb,hcy⟩:=(hy.upd hr (fun a ha=>hne a ha i9)).get (i:=i) i9
    obtain⟨s,d,hs,hsb,hd,hsub⟩:=zR hc hzb hyb
    go_wp2_with fail
    go_roundw
    case rel=>exact⟨i+1,d,l.set i s,by omega,hd,by go_num,rfl,by show _=_;rw [List.length_set];exact hll.out,j0 hwl _ (by rw [dJ];omega),by rw [←eM];exact (hb.set _ _),
     J3 (by rw [hll.out];omega) hv.out hzk.out (by rw [gA ys i (by rw [hly.out];omega),hyk.out]) hs.out,hr.setCell _ _⟩
    case measure=>simp [intOf];omega
   ·by_cases hc0:c=0
    ·subst hc0
     go_wp2_with fail
     refine kE (results_none J _ _ _) J ?_
     exact FIN.out (cN ⟨by omega,by simp⟩)
    ·obtain rfl:c=1:=by omega
     obtain⟨s,d,hs,hsb,hd,hsub⟩:=U8 hzb
     go_wp2_with fail
     go_roundw
     case rel=>exact⟨i+1,d,l.set i s,by omega,hd,by go_num,rfl,by show _=_;rw [List.length_set];exact hll.out,j0 hwl _ (by rw [dJ];omega),by rw [←eM];exact (hb.set _ _),
      J3 (y:=0) (c:=1) (by rw [hll.out];omega) hv.out hzk.out (by rw [List.take_of_length_le (by rw [hly.out];omega),List.take_of_length_le (by rw [hly.out];omega),iV,fN]) hs.out,hr.setCell _ _⟩
     case measure=>simp [intOf];omega
  ·go_wp2_with fail
   go_end0
   exact FIN.out (cJ i9)
def NewP (w:a6)(v n:Nat)(e:eF)(w':a6):Prop:=
 ∃g zs,e= .returned (up (some ⟨g,0,none⟩) n n)∧w.heap.size≤g∧Bk w' g 43 (zs.map bF)∧Wf zs∧Hid (zs.length=n)∧Hid (nv zs=v)∧Ext w w'
theorem LZ (h:xs.length≤n):nv (splice (dF n 0) 0 xs)=nv xs∧(splice (dF n 0) 0 xs).length=n:=by
 unfold splice;constructor
 ·rw [List.take_zero,List.nil_append,List.drop_replicate,EP,AV,iV,fN]
 simp;omega
theorem QJ (hx:Wf xs)(hy:Wf ys)(o:Nat):Wf (splice xs o ys):=yL (uA hx _) (yL hy (GN hx _))
theorem MC (hx:Rd w A n cap xs)(hl:n≤549755813888)(hy:Rd w B m cap' ys)(hl':m≤549755813888):aQ aM 179 #[up A n cap,up B m cap'] w (NewP w (nv xs+nv ys) (max n m+1)):=by
 have hlx:=Lib.hid hx.len;have hly:=Lib.hid hy.len;obtain⟨k,hk⟩:∃k,max n m=k:=⟨_,rfl⟩;rw [hk];have hnk:n≤k:=by omega
 have hmk':m≤k:=by omega
 have hkb:k≤549755813888:=by omega
 have hmax:max (n:Int) (m:Int)=(k:Int):=by omega
 have hmk:=mB (P:=aM) Tryz.underlying22 j9 J yd ((k:Int)+1) i9 i9;have et:((k:Int)+1).toNat=k+1:=by omega
 rw [et] at hmk;clear et hk
 go_enter Tryz.func179,Tryz.ntmps179
 go_upto_region 2 with (fail)
 clear hmk;obtain⟨g,hg⟩:∃g,w.heap.size=g:=⟨_,rfl⟩;rw [hg];obtain⟨wa,hwa⟩:∃wa,w.alloc (.cells (zc (.int .u64 0) (k+1)) 43)=wa:=⟨_,rfl⟩;rw [hwa]
 have hbk:Bk wa g 43 ((dF (k+1) 0).map bF):=by
  rw [←hwa,←hg,←kG];exact Bk.new' _ _ _
 have hea:Ext w wa:=by rw [←hwa];exact (Ext.refl w).alloc _
 have hgs:w.heap.size≤g:=by rw [hg];exact aU _
 clear hg hwa;have hr1:n≤k+1:=by omega
 go_wp2_with ((with_reducible refine dU (some 15) ?_);refine zF J (.tmp 13) (.tmp 14) 22 22 J J J Tryz.underlying22 DN hbk (hx.rv.ext hea) (fun _=>rfl) (by rw [List.length_map,List.length_replicate];omega) (CD xs) ?_;intro w1 hb1 hu1)
 rw [←m6,DM,List.take_of_length_le (l:=xs) (by rw [hlx.out];omega)] at hb1;obtain⟨zs,hzs⟩:∃zs,zs=splice (dF (k+1) 0) 0 xs:=⟨_,rfl⟩;have hz2:=LZ (xs:=xs) (n:=k+1) (by rw [hlx.out];omega);have hwz:Wf zs:=by rw [hzs];exact QJ (oZ _) hx.wf _
 rw [←hzs] at hb1 hz2;clear hzs;obtain⟨hzv,hzl⟩:=hz2;have HZV:=Lib.hid hzv;have HZL:=Lib.hid hzl;clear hzv hzl;have he1:Ext w w1:=hu1.ext hea hgs;refine (B7 (o:=0) (n:=k+1) hb1 hwz (by rw [HZL.out];omega) (hy.ext he1) (fun a ha hp=>by have:=hy.rv.blk a ha (by have:=hy.rv.le;omega);omega) i9 i9 i9 ?_).mono ?_
 ·have h1:=kH hx.wf;have h2:=kH hy.wf;rw [hlx.out] at h1;rw [hly.out] at h2;have h3:WB^n≤WB^k:=fZ iM hnk;have h4:WB^m≤WB^k:=fZ iM hmk';have h5:WB^k*2≤WB^k*WB:=gT _ QL;rw [HZV.out,Nat.pow_zero,Nat.one_mul,eR,dS];omega
 rintro e w2 ⟨zs',rfl,hb2,hw2,hl2,hv2,hu2⟩
 go_wp2_with fail
 go_ret
 refine⟨g,zs',rfl,hgs,hb2,hw2,(show _=_ by rw [hl2.out,HZL.out]),?_,hu2.ext he1 hgs⟩;show _=_;rw [hv2.out,HZV.out,Nat.pow_zero,Nat.one_mul]
theorem Z6 {o P s:Nat}(hk:k=i+j)(hkm:k<m)(hml:m≤l.length)(h:nv (l.take m)+WB^k*c=P+x*(WB^i*nv (ys.take j)))(ho:l.getD k 0=o)(hj:j<ys.length)(hy:ys.getD j 0=y)(hs:s+WB*d=o+x*y+c):nv ((l.set k s).take m)+WB^(k+1)*d=P+x*(WB^i*nv (ys.take (j+1))):=by
 have E:=qM (l:=l.take m) (k:=k) (by rw [eB];omega) s;rw [BF hkm,ho] at E;rw [List.take_set,gA ys j hj,hy,dE (WB^i),dE x,←k8,←h,←cU (WB^i),←eS,←hk,dS,cU (WB^k)];have f:WB^k*(s+WB*d)=WB^k*(o+x*y+c):=by rw [hs]
 simp only [dE] at f;have F:WB^k*(x*y)=x*(WB^k*y):=by rw [←cU,dH (WB^k) x,cU]
 rw [F] at f;omega
theorem Z9 {capa capb:Nat}(hz:Bk w g 43 (zs.map bF))(hzz:zs=dF N 0)(hN:N=n+m)(hx:Rd w A n capa xs)(hy:Rd w B m capb ys)(hna:∀a,A=some a→0<n→a.block≠g)(hnb:∀a,B=some a→0<m→a.block≠g)(hn:n≤549755813888)(hm:m≤549755813888):aQ aM 159 #[up (some ⟨g,0,none⟩) N cap,up A n capa,up B m capb] w (wG g zs (nv xs*nv ys) w):=by
 have hlx:=Lib.hid hx.len;have hly:=Lib.hid hy.len;have hlz:=Lib.hid (show zs.length=n+m by rw [hzz,List.length_replicate,hN]);have hwz:Wf zs:=by rw [hzz];exact oZ _
 have hz0:=Lib.hid (show∀t,zs.getD t 0=0 by intro t;rw [hzz];simp [bL,List.getElem?_replicate];split <;> rfl);have hzv:=Lib.hid (show nv (zs.take m)=0 by rw [hzz,List.take_replicate,AV]);subst hN;clear hzz
 go_enter Tryz.func159,Tryz.ntmps159
 go_wp2_with fail
 go_loopw [16] (fun u wr=>∃(i:Nat) (l:List Nat),i≤n∧u= no (i:Int)∧Hid (l.length=n+m)∧Wf l∧Bk wr g 43 (l.map bF)∧
  Hid (nv (l.take (i+m))=nv (xs.take i)*nv ys)∧Hid (∀t,i+m≤t→l.getD t 0=0)∧Upd g w wr) (fun u wr=>n-(intOf u).toNat)
 case atStart=>exact⟨0,zs,bX _,rfl,hlz.out,hwz,hz,by simp [Hid,nv];exact hzv.out,fun t _=>hz0.out t,Upd.refl _ _⟩
 case round=>
  obtain⟨i,l,hi,rfl,hll,hwl,hb,hv,h0,hr⟩:=hrel
  by_cases hip:i<n
  ·obtain⟨a,x,rfl,hxk,hxb,hcx⟩:=(hx.upd hr (fun a ha=>hna a ha i9)).get (i:=i) i9
   by_cases hx0:x=0
   ·subst hx0
    have hstay:Hid (nv (l.take (i+1+m))=nv (xs.take (i+1))*nv ys):=by
     show _=_
     rw [show i+1+m=i+m+1 from by omega,tG l (i+m) (by rw [hll.out];omega) (h0.out _ i9),hv.out,tG xs i (by rw [hlx.out];omega) hxk.out]
    go_wp2_with fail
    go_roundw
    case rel=>exact⟨i+1,l,by omega,by go_num,hll.out,hwl,hb,hstay.out,fun t ht=>h0.out t i9,hr⟩
    case measure=>simp [intOf];omega
   ·have hxz:((x:Int)==0)=false:=by simp;omega
    go_wp2_with fail
    obtain⟨wo,rfl⟩:∃wo:a6,wo=wr:=⟨_,rfl⟩
    go_loopw [25,8] (fun u v wr=>∃(j c:Nat) (l:List Nat),j≤m∧c≤18446744073709551615∧u= no (j:Int)∧v= t9 (c:Int)∧Hid (l.length=n+m)∧Wf l∧Bk wr g 43 (l.map bF)∧
     Hid (nv (l.take (i+m))+WB^(i+j)*c=nv (xs.take i)*nv ys+x*(WB^i*nv (ys.take j)))∧Hid (∀t,i+m≤t→l.getD t 0=0)∧Upd g w wr) (fun u v wr=>m-(intOf u).toNat)
    case atStart=>exact⟨0,0,l,bX _,by omega,rfl,rfl,hll.out,hwl,hb,(show _=_ by rw [hv.out];simp [nv]),h0.out,hr⟩
    case round=>
     obtain⟨j,c,l2,hj,hc,rfl,rfl,hl2,hw2,hb2,hv2,h02,hr2⟩:=hrel
     clear hll hwl hb hv h0 hr hcx
     by_cases hjq:j<m
     ·obtain⟨b,y,rfl,hyk,hyb,hcy⟩:=(hy.upd hr2 (fun a ha=>hnb a ha i9)).get (i:=j) i9
      obtain⟨o,hok,iG,hco⟩:=hb2.word hw2 (i:=i+j) (by rw [hl2.out];omega)
      have hfr:=hb2.frozen (i+j)
      go_wp2_with fail
      refine (bits_Mul64 x y hxb hyb _).mono ?_
      rintro e w' ⟨hi',lo,hp,hhb,hlb,rfl,rfl⟩
      obtain⟨s1,d1,hs1,hsb1,hd1,hadd1⟩:=yK hlb hc
      obtain⟨s2,d2,hs2,hsb2,hd2,hadd2⟩:=yK iG hsb1
      have hP:x*y≤340282366920938463426481119284349108225:=kP hxb hyb
      have hk1:hi'+d1+d2≤18446744073709551615∧hi'+d1≤18446744073709551615:=by
       have e1:=hp.out
       have e2:=hs1.out
       have e3:=hs2.out
       rw [dJ] at e1 e2 e3
       omega
      obtain⟨hk1,hk2⟩:=hk1
      clear hP
      go_wp2_with fail
      go_roundw
      case rel=>
       refine⟨j+1,hi'+d1+d2,l2.set (i+j) s2,by omega,by omega,by go_num,gW,by show _=_;rw [List.length_set];exact hl2.out,j0 hw2 _ (by rw [dJ];omega),by rw [←eM];exact hb2.set _ _,
        Z6 (k:=i+j) (m:=i+m) J i9 (by rw [hl2.out];omega) hv2.out hok.out (by rw [hly.out];omega) hyk.out ?_,fun t ht=>?_,hr2.setCell _ _⟩
       ·have e1:=hp.out
        have e2:=hs1.out
        have e3:=hs2.out
        rw [dE,dE,←e1];omega
       ·rw [getD_set_ne i9];exact h02.out t ht
      case measure=>simp [intOf];omega
     ·obtain rfl:j=m:=by omega
      obtain⟨o,hok,iG,hco⟩:=hb2.word hw2 (i:=i+j) (by rw [hl2.out];omega)
      have hfr:=hb2.frozen (i+j)
      go_wp2_with fail
      go_roundw
      case rel=>
       refine⟨i+1,l2.set (i+j) c,by omega,by go_num,by show _=_;rw [List.length_set];exact hl2.out,j0 hw2 _ (by rw [dJ];omega),by rw [←eM];exact hb2.set _ _,?_,fun t ht=>?_,hr2.setCell _ _⟩
       ·show _=_
        rw [show i+1+j=i+j+1 from by omega,EO (by rw [hl2.out];omega),hv2.out,List.take_of_length_le (l:=ys) (i:=j) (by rw [hly.out];omega),gA xs i (by rw [hlx.out];omega),hxk.out,eE,←cU,dH x]
       ·rw [getD_set_ne i9];exact h02.out t i9
      case measure=>simp [intOf];omega
  ·obtain rfl:i=n:=by omega
   go_wp2_with fail
   go_end0
   have h:=hv.out
   rw [List.take_of_length_le (by rw [hll.out];omega),List.take_of_length_le (by rw [hlx.out];omega)] at h
   exact⟨l,rfl,hb,hwl,(show _=_ by rw [hll.out,hlz.out]),h,hr⟩
def GT (w:a6)(x y:Nat)(e:eF)(w':a6):Prop:=∃k,Hid (k=(wd x).length+(wd y).length)∧NewP w (x*y) k e w'
def QS (N:Nat):Prop:=∀(w:a6) (A B:Option a7) (n cap m cap':Nat) (xs ys:List Nat),Rd w A n cap xs→Rd w B m cap' ys→n+m<N→n+m≤274877906944→
 aQ aM 140 #[up A n cap,up B m cap'] w (GT w (nv xs) (nv ys))
theorem NewP.rd (hb:Bk w' g 43 (zs.map bF))(hw:Wf zs)(hl:zs.length=n)(hn:n≤1099511627776):Rd w' (some ⟨g,0,none⟩) n n zs:=by
 have:=hb.rd hw (o:=0) (n:=n) (cap:=n) (aU _) i9 (by rw [eV];omega);rwa [iN,List.take_of_length_le i9] at this
theorem Upd.then_new {a b:a6}(h:Upd g w a)(e:Upd k a b)(hk:w.heap.size≤k):Upd g w b:=
 ⟨⟨e.by_.os.trans h.by_.os,e.by_.tape.trans h.by_.tape,e.by_.output.trans h.by_.output,a8 h.by_.size e.by_.size,
  fun i hi f=>(e.by_.block i (dA hi h.by_.size) (fun e'=>by have:=kO e';omega)).trans (h.by_.block i hi f)⟩⟩
theorem Rd.drop_some {a:a7}(h:Rd w (some a) n cap xs){l:Nat}(hl:l<n):Rd w (some (a.add l)) (n-l) (cap-l) (xs.drop l):=by
 have hc:=h.rv.le;have:=h.cut (l:=l) (k:=n) (m:=cap) i9 (aU _) hc (aU _);rw [if_neg i9,sM,List.take_of_length_le (by rw [h.len];omega)] at this;exact this
theorem Rd.empty (h:Rd w A n cap xs):Rd w A 0 0 []:=by
 have:=h.take (k:=0) (m:=0) (bX _) (aU _) (bX _);simpa using this
def QW (w:a6)(h r:Nat)(xs:List Nat)(u v:aF)(wc:a6):Prop:=
 ∃A0 A1 c0 c1,u= up A0 h c0∧v= up A1 r c1∧Rd wc A0 h c0 (xs.take h)∧Rd wc A1 r c1 (xs.drop h)∧Ext w wc
theorem ZA (IH:QS N)(hz:Bk w g 43 (zs.map bF))(hzz:zs=dF (n+m) 0)(hx:Rd w A n n xs)(hy:Rd w B m m ys)(hna:∀a,A=some a→a.block≠g)(hnb:∀a,B=some a→a.block≠g)(hN:n+m=N)(hN2:N≤274877906944)(hm:24≤m)(hmn:m≤n)(hnm:n<2*m):aQ aM 161 #[up (some ⟨g,0,none⟩) N N,up A n n,up B m m] w (wG g zs (nv xs*nv ys) w):=by
 have HI:=Lib.hid IH;have HZZ:=Lib.hid hzz;clear IH hzz;have hlx:=Lib.hid hx.len;have hly:=Lib.hid hy.len;obtain⟨hf,hh⟩:∃hf,hf=(n+1)/2:=⟨_,rfl⟩;have hh1:n≤2*hf:=by omega
 have hh2:2*hf≤n+1:=by omega
 have hh3:((n:Int)+1)/2=(hf:Int):=by omega
 have hNi:N≤n+m:=by omega
 have hNj:n+m≤N:=by omega
 have HN:=Lib.hid hN;clear hh hN;obtain⟨a,_,rfl,_,_,_⟩:=hx.get (i:=0) i9;obtain⟨b,_,rfl,_,_,_⟩:=hy.get (i:=0) i9
 go_enter Tryz.func161,Tryz.ntmps161
 go_upto_region 1 with (fail)
 go_cut [7,8] (fun u v wc=>QW w hf (n-hf) xs u v wc)
 case first=>
  go_wp2_with fail
  go_quiet (fail)
  go_wp2_with fail
  go_meet
  case rel=>exact⟨_,_,_,_,rfl,rfl,(hx.take (k:=hf) (m:=hf) i9 (aU _) i9).ext yn,(hx.drop_some (l:=hf) i9).ext yn,yn⟩
 case rest=>
  obtain⟨A0,A1,c0,c1,rfl,rfl,hx0,hx1,hext1⟩:=hcut
  obtain⟨wx,rfl⟩:∃wx:a6,wx=wc:=⟨_,rfl⟩
  go_upto_region 2 with (fail)
  go_cut [9,10] (fun u v wc=>QW wx hf (m-hf) ys u v wc)
  case first=>
   by_cases hhm:hf=m
   ·subst hhm
    have e0:hf-hf=0:=by omega
    go_wp2_with fail
    go_quiet (fail)
    go_wp2_with fail
    go_meet
    case rel=>
     have hy2:=(hy.ext hext1)
     refine⟨_,some b,_,0,rfl,by rw [e0],(hy2.take (k:=hf) (m:=hf) i9 (aU _) i9).ext yn,?_,yn⟩
     rw [e0,List.drop_eq_nil_of_le (by rw [hly.out];omega)]
     exact hy2.empty.ext yn
   ·have hhm2:hf<m:=by omega
    go_wp2_with fail
    go_quiet (fail)
    go_wp2_with fail
    go_meet
    case rel=>
     have hy2:=(hy.ext hext1)
     exact⟨_,_,_,_,rfl,rfl,(hy2.take (k:=hf) (m:=hf) i9 (aU _) i9).ext yn,(hy2.drop_some (l:=hf) i9).ext yn,yn⟩
  case rest=>
   obtain⟨B0,B1,d0,d1,rfl,rfl,hy0,hy1,hext2⟩:=hcut
   have hx0':=hx0.ext hext2
   have hx1':=hx1.ext hext2
   have hz':=hz.ext (hext1.trans hext2)
   have hE:=hext1.trans hext2
   clear hx0 hx1 hext1 hext2
   go_wp2_with fail
   refine (HI.out _ _ _ _ _ _ _ _ _ hx0' hy0 i9 i9).mono ?_
   rintro e w1 ⟨kl,hkl,gl,zl,rfl,hgl,hbl,hwl,hll,hvl,he1⟩
   have hlb:kl≤2*hf:=by
    rw [hkl.out]
    have h1:=iT hx0'.wf
    have h2:=iT hy0.wf
    rw [hx0'.len] at h1
    rw [hy0.len] at h2
    omega
   go_wp2_with fail
   refine (vG (NewP.rd hbl hwl hll.out i9)).mono ?_
   rintro e w' ⟨tl,htl,rfl,hrl,rfl⟩
   rw [hvl.out] at htl hrl
   go_wp2_with fail
   refine (HI.out _ _ _ _ _ _ _ _ _ (hx1'.ext he1) (hy1.ext he1) i9 i9).mono ?_
   rintro e w2 ⟨kh,hkh,gh,zh,rfl,hgh,hbh,hwh,hlh,hvh,he2⟩
   have hhb:kh≤(n-hf)+(m-hf):=by
    rw [hkh.out]
    have h1:=iT hx1'.wf
    have h2:=iT hy1.wf
    rw [hx1'.len] at h1
    rw [hy1.len] at h2
    omega
   go_wp2_with fail
   refine (vG (NewP.rd hbh hwh hlh.out i9)).mono ?_
   rintro e w' ⟨th,hth,rfl,hrh,rfl⟩
   rw [hvh.out] at hth hrh
   have he12:=he1.trans he2
   go_wp2_with fail
   refine (MC (hx0'.ext he12) i9 (hx1'.ext he12) i9).mono ?_
   rintro e w3 ⟨g3,z3,rfl,hg3,hb3,hw3,hl3,hv3,he3⟩
   go_wp2_with fail
   refine (MC (hy0.ext (he12.trans he3)) i9 (hy1.ext (he12.trans he3)) i9).mono ?_
   rintro e w4 ⟨g4,z4,rfl,hg4,hb4,hw4,hl4,hv4,he4⟩
   have q3:max hf (n-hf)+1=hf+1:=by omega
   have q4:max hf (m-hf)+1=hf+1:=by omega
   rw [q3] at hl3
   rw [q4] at hl4
   rw [q3,q4]
   clear q3 q4
   go_wp2_with fail
   refine (HI.out _ _ _ _ _ _ _ _ _ (NewP.rd (hb3.ext he4) hw3 hl3.out i9) (NewP.rd hb4 hw4 hl4.out i9) i9 i9).mono ?_
   rintro e w5 ⟨km,hkm,gm,zm,rfl,hgm,hbm,hwm,hlm,hvm,he5⟩
   have vx:Hid (nv xs=nv (xs.take hf)+WB^hf*nv (xs.drop hf)):=qL xs hf (by rw [hlx.out];omega)
   have vy:Hid (nv ys=nv (ys.take hf)+WB^hf*nv (ys.drop hf)):=qL ys hf (by rw [hly.out];omega)
   have bx:Hid (nv xs*nv ys<WB^N):=by
    show _<_
    have h1:=kH hx.wf
    have h2:=kH hy.wf
    rw [hlx.out] at h1
    rw [hly.out] at h2
    rw [←HN.out,eS]
    exact yV h1 h2
   have bl:Hid (nv (xs.take hf)*nv (ys.take hf)<WB^(2*hf)):=by
    show _<_
    have h1:=nX hx.wf hf
    have h2:=nX hy.wf hf
    rw [Nat.two_mul,eS]
    exact yV h1 h2
   rw [hv3.out,hv4.out] at hvm hkm
   generalize nv (xs.take hf)=X0 at*
   generalize nv (xs.drop hf)=X1 at*
   generalize nv (ys.take hf)=Y0 at*
   generalize nv (ys.drop hf)=Y1 at*
   have emid:Hid ((X0+X1)*(Y0+Y1)=X0*Y0+X1*Y1+(X0*Y1+X1*Y0)):=by
    show _=_
    simp only [eE,dE];omega
   have eall:Hid (nv xs*nv ys=X0*Y0+WB^(2*hf)*(X1*Y1)+WB^hf*(X0*Y1+X1*Y0)):=by
    show _=_
    rw [vx.out,vy.out,Nat.two_mul,eS]
    simp only [eE,dE,cU]
    rw [Nat.mul_left_comm X0 (WB^hf) Y1,Nat.mul_left_comm X1 (WB^hf) Y1]
    omega
   have he25:=(he3.trans he4).trans he5
   have sl:tl≤km:=by
    have h1:=kH hwm
    rw [hlm.out,hvm.out,emid.out] at h1
    rw [htl.out]
    exact kK i9
   have sh:th≤km:=by
    have h1:=kH hwm
    rw [hlm.out,hvm.out,emid.out] at h1
    rw [hth.out]
    exact kK i9
   have hgl':gl<w1.heap.size:=hbl.lt
   have hgh':gh<w2.heap.size:=hbh.lt
   have s12:=he12.size
   have s2:=he2.size
   have s25:=he25.size
   have s5:=(he3.trans he4).size
   have n1:gl≠gm:=by omega
   have n2:gh≠gm:=by omega
   have hgz:g<w.heap.size:=hz.lt
   have sE:=hE.size
   have n3:g≠gm:=by have:=he12.size;omega
   have n4:g≠gl:=by omega
   have n5:g≠gh:=by have:=he1.size;omega
   have hkmb:km≤549755813888:=by
    rw [hkm.out]
    have h1:=iT hw3
    have h2:=iT hw4
    rw [hl3.out,hv3.out] at h1
    rw [hl4.out,hv4.out] at h2
    omega
   go_wp2_with fail
   refine (MD hbm hwm hlm.out (hrl.ext (he2.trans he25)) (fun a ha _=>by cases ha;exact n1) sl i9 (by rw [dZ,hvm.out,emid.out];omega)).mono ?_
   rintro e w6 ⟨z6,rfl,hb6,hw6,hl6,hv6,hu6⟩
   rw [dZ,hvm.out,emid.out] at hv6
   go_wp2_with fail
   refine (MD hb6 hw6 (by rw [hl6.out,hlm.out]) ((hrh.ext he25).upd hu6 (fun a ha=>by cases ha;exact n2)) (fun a ha _=>by cases ha;exact n2) sh i9 (by rw [dZ,hv6.out];omega)).mono ?_
   rintro e w7 ⟨z7,rfl,hb7,hw7,hl7,hv7,hu7⟩
   rw [dZ,hv6.out] at hv7
   have hu67:=hu6.trans hu7
   have hz7:Bk w7 g 43 (zs.map bF):=(hz'.ext (he12.trans he25)).upd hu67 n3
   have hrl7:Rd w7 (some ⟨gl,0,none⟩) tl tl (wd (X0*Y0)):=(hrl.ext (he2.trans he25)).upd hu67 (fun a ha=>by cases ha;exact n1)
   have hrh7:Rd w7 (some ⟨gh,0,none⟩) th th (wd (X1*Y1)):=(hrh.ext he25).upd hu67 (fun a ha=>by cases ha;exact n2)
   have hv7':Hid (nv z7=X0*Y1+X1*Y0):=by show _=_;rw [hv7.out];omega
   go_wp2_with ((with_reducible refine dU (some 55) ?_);refine zF J (.tmp 53) (.tmp 54) 22 22 J J J Tryz.underlying22 DN hz7 hrl7.rv (fun _=>rfl) ?fit (CD _) ?_;rotate_left;intro w8 hb8 hu8)
   case fit=>rw [List.length_map,HZZ.out,List.length_replicate];omega
   have hwt:Wf (wd (X0*Y0)):=qX _
   have tlN:tl≤N:=by rw [htl.out];exact kK (lS (by rw [eall.out];omega) bx.out)
   rw [←m6,List.take_of_length_le (l:=wd (X0*Y0)) (by rw [←htl.out];exact tlN),HZZ.out,DM] at hb8
   obtain⟨hv8,hl8⟩:=LZ (xs:=wd (X0*Y0)) (n:=n+m) (by rw [←htl.out];omega)
   rw [dZ] at hv8
   have hw8:Wf (splice (dF (n+m) 0) 0 (wd (X0*Y0))):=QJ (oZ _) hwt _
   generalize splice (dF (n+m) 0) 0 (wd (X0*Y0))=z8 at*
   have HV8:=Lib.hid hv8
   have HL8:=Lib.hid hl8
   clear hv8 hl8
   have hrh8:=hrh7.upd hu8 (fun a ha=>by cases ha;exact fun e=>n5 e.symm)
   have tot2:Hid (X0*Y0+WB^(2*hf)*(X1*Y1)<WB^N):=lS (by rw [eall.out];omega) bx.out
   have thN:th≤N-2*hf:=by
    rw [hth.out]
    refine kK ?_
    have h1:=tot2.out
    refine Nat.lt_of_mul_lt_mul_left (a:=WB^(2*hf)) ?_
    rw [←eS,show 2*hf+(N-2*hf)=N from by omega]
    omega
   have e2h:2*hf+(N-2*hf)=N:=by omega
   have hadd:=B7 (o:=2*hf) (n:=N-2*hf) (cap:=N-2*hf) hb8 hw8 (by rw [HL8.out,HN.out,e2h]) hrh8 (fun a ha _=>by cases ha;exact fun e=>n5 e.symm) thN i9 i9 (by rw [HV8.out,dZ,e2h];exact tot2.out)
   refine hadd.mono ?_
   clear hadd
   clear e2h
   rintro e w9 ⟨z9,rfl,hb9,hw9,hl9,hv9,hu9⟩
   rw [HV8.out,dZ] at hv9
   have hz79:Bk w9 gm 43 (z7.map bF):=(hb7.upd hu8 (fun e=>n3 e.symm)).upd hu9 (fun e=>n3 e.symm)
   have hrm:Rd w9 (some ⟨gm,0,none⟩) km km z7:=NewP.rd hz79 hw7 (by rw [hl7.out,hl6.out,hlm.out]) i9
   go_wp2_with fail
   have tot3:Hid (nv z9+WB^hf*nv z7<WB^(hf+(N-hf))):=by
    show _<_
    rw [hv9.out,hv7'.out,show hf+(N-hf)=N from by omega,←eall.out];exact bx.out
   have tmN:(wd (nv z7)).length≤N-hf:=by
    refine kK ?_
    have h1:=tot3.out
    refine Nat.lt_of_mul_lt_mul_left (a:=WB^hf) ?_
    rw [←eS]
    omega
   have hl9':Hid (z9.length=hf+(N-hf)):=by show _=_;rw [hl9.out,HL8.out,HN.out];omega
   have b9:hf≤1099511627776:=by omega
   have b10:N-hf≤1099511627776:=by omega
   have fin:∀z10 w10,Wf z10→Bk w10 g 43 (z10.map bF)→z10.length=z9.length→nv z10=nv z9+WB^hf*nv (wd (nv z7))→Upd g w9 w10→wG g zs (nv xs*nv ys) w (.returned (.tuple #[])) w10:=by
    intro z10 w10 h1 h2 h3 h4 h5
    refine⟨z10,rfl,h2,h1,(show _=_ by rw [h3,hl9.out,HL8.out,HZZ.out,List.length_replicate]),?_,?_⟩
    ·show _=_
     rw [h4,dZ,hv9.out,hv7'.out,←eall.out]
    ·have u5:Upd g w w5:=Upd.of_ext (hE.trans (he12.trans he25))
     have u7:Upd g w w7:=u5.then_new hu67 i9
     exact ((u7.trans hu8).trans hu9).trans h5
   have FIN:=Lib.hid fin
   clear fin
   go_region_with (first
    | (go_at_call 158;refine (vG (hrm.ext yn)).mono ?_;rintro e w' ⟨tm,htm,rfl,hrm2,rfl⟩)
    | (go_at_call 160;refine (B7 (o:=hf) (n:=N-hf) (hb9.ext yn) hw9 hl9'.out hrm2 (fun a ha _=>by cases ha;exact fun e=>n3 e.symm) (by rw [htm.out];exact tmN) b10 b9 (by rw [dZ];exact tot3.out)).mono ?_;rintro e w10 ⟨z10,rfl,hb10,hw10,hl10,hv10,hu10⟩))
   all_goals
    go_end0
    exact FIN.out z10 _ hw10 (by first | exact hb10 | exact hb10.drew | exact hb10.drewN _) hl10.out hv10.out (by first | exact (Upd.of_ext yn).trans hu10 | exact ((Upd.of_ext yn).trans hu10).drew)
theorem Y5 (N:Nat):QS N:=by
 induction N with
 | zero=>intro w A B n cap m cap' xs ys _ _ h;omega
 | succ N IH=>
  intro w A B n cap m cap' xs ys hx hy hN hN2
  have HI:=Lib.hid IH
  clear IH
  go_enter Tryz.func140,Tryz.ntmps140
  go_wp2_with fail
  refine (vG hx).mono ?_
  rintro e w' ⟨p,hp,rfl,hx1,rfl⟩
  go_wp2_with fail
  refine (vG hy).mono ?_
  rintro e w' ⟨q,hq,rfl,hy1,rfl⟩
  have hpn:p≤n:=by rw [hp.out];have:=iT hx.wf;rw [hx.len] at this;exact this
  have hqm:q≤m:=by rw [hq.out];have:=iT hy.wf;rw [hy.len] at this;exact this
  go_upto_if 16 with (fail)
  go_cut [0,1] (fun u v wc=>∃A B p q xs' ys',u= up A p p∧v= up B q q∧Rd w A p p xs'∧Rd w B q q ys'∧Hid (nv xs'*nv ys'=nv xs*nv ys)∧q≤p∧p+q≤n+m∧Hid (p+q=(wd (nv xs)).length+(wd (nv ys)).length)∧w=wc)
  case first=>
   by_cases hpq:p<q
   ·go_wp2_with fail
    go_meet
    case rel=>exact⟨B,A,q,p,_,_,rfl,rfl,hy1,hx1,(show _=_ by rw [dZ,dZ,dH]),by omega,by omega,(show _=_ by rw [←hp.out,←hq.out];omega),rfl⟩
   ·go_wp2_with fail
    go_meet
    case rel=>exact⟨A,B,p,q,_,_,rfl,rfl,hx1,hy1,(show _=_ by rw [dZ,dZ]),by omega,by omega,(show _=_ by rw [←hp.out,←hq.out]),rfl⟩
  case rest=>
   clear hx1 hy1 hp hq hpn hqm hx hy
   obtain⟨A,B,p,q,xs',ys',rfl,rfl,hx,hy,hXY,hqp,hpq,hK,rfl⟩:=hcut
   have hlx:=Lib.hid hx.len
   have hly:=Lib.hid hy.len
   have hmk:=mB (P:=aM) Tryz.underlying22 j9 J yd ((p:Int)+(q:Int)) i9 i9
   have et:((p:Int)+(q:Int)).toNat=p+q:=by omega
   rw [et] at hmk
   clear et
   obtain⟨g,hg⟩:∃g,w.heap.size=g:=⟨_,rfl⟩
   obtain⟨wa,hwa⟩:∃wa,w.alloc (.cells (zc (.int .u64 0) (p+q)) 43)=wa:=⟨_,rfl⟩
   have hbk:Bk wa g 43 ((dF (p+q) 0).map bF):=by
    rw [←hwa,←hg,←kG];exact Bk.new' _ _ _
   have hea:Ext w wa:=by rw [←hwa];exact (Ext.refl w).alloc _
   have hgs:w.heap.size≤g:=by rw [hg];exact aU _
   have hna:∀a,A=some a→0<p→a.block≠g:=fun a ha hp=>by have:=hx.rv.blk a ha (by have:=hx.rv.le;omega);omega
   have hnb:∀a,B=some a→0<q→a.block≠g:=fun a ha hp=>by have:=hy.rv.blk a ha (by have:=hy.rv.le;omega);omega
   have HNA:=Lib.hid hna
   have HNB:=Lib.hid hnb
   have HG:=Lib.hid hg
   have HWA:=Lib.hid hwa
   clear hna hnb hg hwa
   go_upto_region 6 with (fail)
   rw [HG.out,HWA.out]
   clear hmk HG HWA
   have fin:∀zs' w',Bk w' g 43 (zs'.map bF)→Wf zs'→zs'.length=p+q→nv zs'=nv xs'*nv ys'→Upd g wa w'→GT w (nv xs) (nv ys) (.returned (up (some ⟨g,0,none⟩) (p+q) (p+q))) w':=by
    intro zs' w' h1 h2 h3 h4 h5
    exact⟨_,hK.out,g,zs',rfl,hgs,h1,h2,h3,by show _=_;rw [h4,hXY.out],h5.ext hea hgs⟩
   have FIN:=Lib.hid fin
   clear fin
   by_cases h24:q<24
   ·go_wp2_with fail
    refine (Z9 hbk J J (hx.ext hea) (hy.ext hea) HNA.out HNB.out i9 i9).mono ?_
    rintro e w1 ⟨z1,rfl,hb1,hw1,hl1,hv1,hu1⟩
    go_wp2_with fail
    go_ret
    exact FIN.out z1 w1 hb1 hw1 (by rw [hl1.out,List.length_replicate]) hv1.out hu1
   ·have hb24:decide ((q:Int)<24)=false:=by simp;omega
    by_cases h2q:p<2*q
    ·go_wp2_with fail
     refine (ZA (N:=p+q) (fun w A B n cap m cap' xs ys h1 h2 h3 h4=>HI.out w A B n cap m cap' xs ys h1 h2 i9 h4) hbk J (hx.ext hea) (hy.ext hea) (fun a ha=>HNA.out a ha i9) (fun a ha=>HNB.out a ha i9) J i9 i9 hqp h2q).mono ?_
     rintro e w1 ⟨z1,rfl,hb1,hw1,hl1,hv1,hu1⟩
     go_wp2_with fail
     go_ret
     exact FIN.out z1 w1 hb1 hw1 (by rw [hl1.out,List.length_replicate]) hv1.out hu1
    ·have hb2q:decide (2*(q:Int)≤(p:Int))=true:=by simp;omega
     obtain⟨a,_,rfl,_,_,_⟩:=hx.get (i:=0) i9
     go_wp2_with fail
     go_loopw [6] (fun u wr=>∃(i:Nat) (l:List Nat),i≤p+q∧u= no (i:Int)∧Hid (l.length=p+q)∧Wf l∧Bk wr g 43 (l.map bF)∧Hid (nv l=nv (xs'.take i)*nv ys')∧Upd g wa wr) (fun u wr=>p+q-(intOf u).toNat)
     case atStart=>exact⟨0,_,bX _,rfl,List.length_replicate,oZ _,hbk,(show _=_ by rw [AV];simp [nv]),Upd.refl _ _⟩
     case round=>
      obtain⟨i,l,hi,rfl,hll,hwl,hb,hv,hr⟩:=hrel
      clear hbk
      by_cases hip:i<p
      ·obtain⟨e,he⟩:∃e,e=min (i+q) p:=⟨_,rfl⟩
       have he1:i<e:=by omega
       have he2:e≤p:=by omega
       have he3:e≤i+q:=by omega
       have hmin:min ((i:Int)+(q:Int)) (p:Int)=(e:Int):=by omega
       have HE:=Lib.hid he
       clear he
       have hxr:=(hx.ext hea).upd hr (fun a ha=>HNA.out a ha i9)
       have hyr:=(hy.ext hea).upd hr (fun a ha=>HNB.out a ha i9)
       have hcut:=hxr.cut (l:=i) (k:=e) (m:=e) i9 he2 (aU _) he2
       rw [if_neg i9,sM] at hcut
       have hnext:Hid (nv (xs'.take (i+q))*nv ys'=nv l+WB^i*(nv ((xs'.take e).drop i)*nv ys')):=by
        show _=_
        have e1:xs'.take (i+q)=xs'.take e:=by
         rw [HE.out]
         rcases Nat.le_total (i+q) p with h | h
         ·rw [iJ h]
         ·rw [Nat.min_eq_right h,List.take_of_length_le (by rw [hlx.out];omega),List.take_of_length_le (by rw [hlx.out];omega)]
        have e2:=qL (xs'.take e) i (by rw [eB,hlx.out];omega)
        rw [List.take_take,iJ i9] at e2
        rw [e1,e2,eE,hv.out,cU]
       have hbnd:Hid (nv l+WB^i*(nv ((xs'.take e).drop i)*nv ys')<WB^(i+(p+q-i))):=by
        show _<_
        rw [←hnext.out,show i+(p+q-i)=p+q from by omega,eS]
        have h1:=kH (uA hx.wf (i+q))
        have h2:=kH hy.wf
        rw [hly.out] at h2
        have h3:WB^(xs'.take (i+q)).length≤WB^p:=fZ iM (by rw [eB,hlx.out];omega)
        exact yV (dA h1 h3) h2
       have htm:(wd (nv ((xs'.take e).drop i)*nv ys')).length≤p+q-i:=by
        refine kK ?_
        have h1:=hbnd.out
        refine Nat.lt_of_mul_lt_mul_left (a:=WB^i) ?_
        rw [←eS]
        omega
       have hprod:nv ((xs'.take e).drop i)*nv ys'<WB^(p+q):=by
        have:=hbnd.out
        have h1:0<WB^i:=iI iM
        have h2:=Nat.le_mul_of_pos_left (nv ((xs'.take e).drop i)*nv ys') h1
        rw [show i+(p+q-i)=p+q from by omega] at this
        omega
       have HP:=Lib.hid hprod
       clear hprod
       have b1:i≤1099511627776:=by omega
       have b2:p+q-i≤1099511627776:=by omega
       have b3:e-i+q<N:=by omega
       have b4:e-i+q≤274877906944:=by omega
       have hgr:g<wr.heap.size:=hb.lt
       go_wp2_with fail
       have hk1b:(wd (nv ((xs'.take e).drop i))).length+(wd (nv ys')).length≤e-i+q:=by
        have h1:=iT hcut.wf
        have h2:=iT hy.wf
        rw [hcut.len] at h1
        rw [hy.len] at h2
        omega
       have htm':(wd (nv (wd (nv ((xs'.take e).drop i)*nv ys')))).length≤p+q-i:=by rw [dZ];exact htm
       have hbnd':Hid (nv l+WB^i*nv (wd (nv ((xs'.take e).drop i)*nv ys'))<WB^(i+(p+q-i))):=by show _<_;rw [dZ];exact hbnd.out
       have hll':Hid (l.length=i+(p+q-i)):=by show _=_;rw [hll.out];omega
       have hgwr:g<wr.heap.size:=hb.lt
       go_region_with (first
        | (go_at_call 140;refine (HI.out _ _ _ _ _ _ _ _ _ (hcut.ext yn) (hyr.ext yn) b3 b4).mono ?_;rintro er w1 ⟨k1,hk1,g1,z1,rfl,hg1,hb1,hw1,hl1,hv1,hx1⟩;have hr1:=NewP.rd hb1 hw1 hl1.out (by rw [hk1.out];omega);have hne1:g1≠g:=(by have h:wr.heap.size≤g1:=hg1;omega);have hx1':Ext wr w1:=Ext.trans yn hx1)
        | (go_at_call 158;refine (vG (hr1.ext yn) (hl:=(by rw [hk1.out];omega))).mono ?_;rintro er w' ⟨tm,htm2,rfl,hrm2,rfl⟩;rw [hv1.out] at htm2 hrm2)
        | (go_at_call 160;refine (B7 (o:=i) (n:=p+q-i) (hb.ext hx1') hwl hll'.out hrm2 (fun a ha _=>by cases ha;exact hne1) (by rw [htm2.out];exact htm) b2 b1 hbnd'.out).mono ?_;rintro er w10 ⟨z10,rfl,hb10,hw10,hl10,hv10,hu10⟩))
       all_goals
        go_wp2_with fail
        go_roundw
        case rel=>
         refine⟨i+q,z10,by omega,by go_num,(show _=_ by rw [hl10.out,hll.out]),hw10,by first | exact hb10 | exact hb10.drew | exact hb10.drewN _,?_,?_⟩
         ·show _=_
          rw [hv10.out,dZ];exact hnext.out.symm
         ·have u1:Upd g wa w10:=(hr.then_ext hx1').trans (Upd.trans (Upd.of_ext yn) hu10)
          first | exact u1 | exact u1.drew | exact u1.drewN _
        case measure=>simp [intOf];omega
      ·have hfull:Hid (nv l=nv xs'*nv ys'):=by
        show _=_
        rw [hv.out,List.take_of_length_le (by rw [hlx.out];omega)]
       go_wp2_with fail
       go_ret
       exact FIN.out l _ hb hwl hll.out hfull.out hr
theorem ME (hx:Rd w A n cap xs)(hy:Rd w B m cap' ys)(hN:n+m≤274877906944):aQ aM 140 #[up A n cap,up B m cap'] w (GT w (nv xs) (nv ys)):=Y5 (n+m+1) w A B n cap m cap' xs ys hx hy i9 hN
theorem xS (hx:Rd w A n cap xs)(hy:Rd w B m cap' ys)(hN:n+m≤274877906944:=by omega):aQ aM 107 #[up A n cap,up B m cap'] w (jR w (nv xs*nv ys)):=by
 go_enter Tryz.func107,Tryz.ntmps107
 go_wp2_with fail
 refine (ME hx hy hN).mono ?_;rintro e w1 ⟨k1,hk1,g1,z1,rfl,hg1,hb1,hw1,hl1,hv1,hx1⟩
 have hk1b:k1≤n+m:=by
  rw [hk1.out]
  have h1:=iT hx.wf
  have h2:=iT hy.wf
  rw [hx.len] at h1
  rw [hy.len] at h2
  omega
 go_wp2_with fail
 refine (kY (NewP.rd hb1 hw1 hl1.out i9)).mono ?_;rintro e w2 ⟨A2,n2,c2,rfl,hn2,hr2,ho2,hx2⟩
 go_wp2_with fail
 go_ret
 rw [hv1.out] at hn2 hr2 ho2;exact⟨A2,n2,c2,rfl,hn2,hr2,ho2.mono hx1.size,hx1.trans hx2⟩
theorem ET (hx:Rd w A n cap xs)(hN:n≤137438953472):aQ aM 117 #[up A n cap] w (jR w (nv xs*nv xs)):=by
 go_enter Tryz.func117,Tryz.ntmps117
 go_wp2_with fail
 refine (xS hx hx).mono ?_;rintro e w1 ⟨A2,n2,c2,rfl,h⟩
 go_wp2_with fail
 go_ret
 exact⟨A2,n2,c2,rfl,h⟩
theorem Rd.one (w:a6)(hx:x≤18446744073709551615):Rd (w.alloc (.cells #[t9 (x:Int)] 43)) (some ⟨w.heap.size,0,none⟩) 1 1 [x]:=
 ⟨Rv.one w 43 _,GM (by rw [dJ];omega)⟩
theorem MB (hx:Rd w A n cap xs)(hN:n≤137438953472)(hxb:x≤18446744073709551615):aQ aM 151 #[up A n cap,t9 (x:Int)] w (jR w (nv xs*x)):=by
 go_enter Tryz.func151,Tryz.ntmps151
 go_wp2_with fail
 refine (xS (hx.ext yn) (Rd.one w hxb)).mono ?_;rintro e w1 ⟨A2,n2,c2,rfl,hn2,hr2,ho2,hx2⟩
 go_wp2_with fail
 go_ret
 rw [xM] at hn2 hr2 ho2;exact⟨A2,n2,c2,rfl,hn2,hr2,ho2.mono ym,((Ext.refl w).alloc _).trans hx2⟩
theorem Own.word (h:Own w base 43 1 A n cap (xs.map bF))(hw:Wf xs)(hi:i<n):∃g x,A=some ⟨g,0,none⟩∧base≤g∧Hid (xs.getD i 0=x)∧x≤18446744073709551615∧w.cell? ⟨g,i,none⟩=some (t9 (x:Int))∧w.frozen? ⟨g,i,none⟩=false∧
   ∀u:Nat,Own (w.setCell ⟨g,i,none⟩ (t9 (u:Int))) base 43 1 (some ⟨g,0,none⟩) n cap ((xs.set i u).map bF):=by
 have G:xs.length=n:=by simpa using h.rv.len
 rcases h with⟨rfl,rfl,rfl,_⟩ | ⟨g,cs,rfl,hb,o,hn,hm,hl,F⟩
 ·omega
 have f:=uB hw i;have E:i<cs.length:=by omega
 refine⟨g,_,rfl,hb,rfl,by rw [dJ] at f;omega,?_,o.frozen i,fun u=>?_⟩
 ·rw [o.cell E]
  have:cs.getD i undef=(cs.take (n*1)).getD i undef:=by
   simp only [bL,lK]
   rw [if_pos i9]
  rw [this,F];simp [bL,jM,cT (show i<xs.length by omega)]
 refine Own.mk_ hb (o.set i _) hn hm (by rw [List.length_set];exact hl) ?_;rw [←eM,←F,List.take_set]
def a31 (w:a6)(q r:Nat)(e:eF)(w':a6):Prop:=
 ∃A n cap r',e= .returned (.tuple #[up A n cap,t9 (r':Nat),no 0])∧Hid (r'=r)∧r'≤18446744073709551615∧Hid (n=(wd q).length)∧Rd w' A n cap (wd q)∧Own w' w.heap.size 43 1 A n cap ((wd q).map bF)∧Ext w w'
theorem RX {rest r' v:Nat}(hk:k<l.length)(h:WB^(k+1)*nv (l.drop (k+1))*v+WB^(k+1)*rest+nv (l.take (k+1))=V)(hx:l.getD k 0=x)(hs:rest*WB+x=d*v+r'):WB^k*nv ((l.set k d).drop k)*v+WB^k*r'+nv ((l.set k d).take k)=V:=by
 have f:(l.set k d).take k=l.take k:=by rw [List.take_set_of_le (aU k)]
 have E:(l.set k d).drop k=d::l.drop (k+1):=by
  rw [pF (by rw [List.length_set];exact hk)]
  congr 1
  ·simp
  ·rw [List.drop_set_of_lt i9]
 rw [f,E,rQ,←h,gA l k hk,hx,dS];have F:WB^k*(rest*WB+x)=WB^k*(d*v+r'):=by rw [hs]
 have o:WB^k*(d+WB*nv (l.drop (k+1)))*v=WB^k*WB*nv (l.drop (k+1))*v+WB^k*(d*v):=by
  rw [dE,eE,Nat.add_comm,←cU (WB^k) WB,cU (WB^k) d]
 have G:WB^k*WB*rest=WB^k*(rest*WB):=by rw [cU,dH WB rest]
 rw [o,G];simp only [dE] at F;omega
theorem FV (hx:Rd w A n cap xs)(hl:n≤1099511627775){v:Nat}(hv0:v≠0)(hvb:v≤18446744073709551615):aQ aM 148 #[up A n cap,t9 (v:Int)] w (a31 w (nv xs/v) (nv xs%v)):=by
 have h0:((v:Int)==0)=false:=by simp;omega
 go_enter Tryz.func148,Tryz.ntmps148
 go_wp2_with fail
 refine (kY hx).mono ?_;rintro e w1 ⟨A1,n1,c1,rfl,hn1,hr1,ho1,hx1⟩
 have hn1b:n1≤n:=by
  have:=iT hx.wf
  rw [hn1.out,←hx.len];exact this
 clear h0;have h0:((v:Int)==0)=false:=by simp;omega
 go_wp2_with fail
 obtain⟨l0,hl0⟩:∃l0,wd (nv xs)=l0:=⟨_,rfl⟩;have hnl0:Hid (nv l0=nv xs):=(show _=_ by rw [←hl0,dZ]);rw [hl0] at hr1 ho1;have hll0:Hid (l0.length=n1):=hr1.len;have hwl0:=hr1.wf;clear hr1 hl0
 go_loopw [9,8] (fun a b wr=>∃(k r:Nat) (l:List Nat),k≤n1∧r<v∧a= no ((k:Int)-1)∧b= t9 (r:Int)∧Hid (l.length=n1)∧Wf l∧Own wr w.heap.size 43 1 A1 n1 c1 (l.map bF)∧
  Hid (WB^k*nv (l.drop k)*v+WB^k*r+nv (l.take k)=nv xs)∧Ext w wr) (fun a b wr=>(intOf a+1).toNat)
 case atStart=>exact⟨n1,0,l0,aU _,by omega,by go_num,rfl,hll0,hwl0,ho1,(show _=_ by rw [List.drop_of_length_le (by rw [hll0.out];exact aU _),List.take_of_length_le (by rw [hll0.out];exact aU _),hnl0.out];simp [nv]),hx1⟩
 case round=>
  obtain⟨k,r,l,hk,hr,rfl,rfl,hll,hwl,ho,hV,hxr⟩:=hrel
  clear hll0 hwl0 ho1 hnl0
  by_cases hk0:0<k
  ·obtain⟨k,rfl⟩:∃j,k=j+1:=⟨k-1,by omega⟩
   obtain⟨g,x,rfl,hg,hxk,hxb,hc,hfr,hset⟩:=ho.word hwl (i:=k) i9
   have ek:((k+1:Nat):Int)-1=(k:Int):=by omega
   rw [ek]
   go_wp2_with fail
   refine (Q9 hr hxb hvb _).mono ?_
   rintro e w2 ⟨d,r',hd,hr',hdb,hrv,rfl,m2,hm2⟩
   have hx2:Ext wr w2:=by rw [hm2];exact (Ext.refl wr).drewN m2
   clear hm2
   have ho2:=ho.ext hx2
   obtain⟨g',x',hg',_,_,_,hc2,hfr2,hset2⟩:=ho2.word hwl (i:=k) i9
   cases hg'
   go_wp2_with fail
   go_roundw
   case rel=>
    refine⟨k,r',l.set k d,by omega,hrv,rfl,rfl,(show _=_ by rw [List.length_set];exact hll.out),j0 hwl k (by rw [dJ];omega),hset2 d,?_,(hxr.trans hx2).setCell hg _⟩
    refine RX (by rw [hll.out];omega) hV.out hxk.out ?_
    rw [hd.out,hr'.out,dH _ v];exact (pD _ _).symm
   case measure=>simp [intOf]
  ·obtain rfl:k=0:=by omega
   have hVl:nv l*v+r=nv xs:=by simpa [nv] using hV.out
   have hq:nv l=nv xs/v:=by rw [←hVl,dH,r9 i9,jL hr];rfl
   have hrr:Hid (r=nv xs%v):=(show _=_ by rw [←hVl,dH,yW,iW hr])
   have HQ:=Lib.hid hq
   clear hq hVl
   have ek:((0:Nat):Int)-1= -1:=rfl
   rw [ek]
   go_wp2_with fail
   refine (kY (ho.rd hwl)).mono ?_
   rintro e w2 ⟨A2,n2,c2,rfl,hn2,hr2,ho2,hx2⟩
   rw [HQ.out] at hn2 hr2 ho2
   go_wp2_with fail
   go_ret3
   exact⟨A2,n2,c2,r,rfl,hrr,by omega,hn2,hr2,ho2.mono hxr.size,hxr.trans hx2⟩
def a34 (w:a6)(v n:Nat)(e:eF)(w':a6):Prop:=
 ∃g zs,e= .returned (up (some ⟨g,0,none⟩) n n)∧w.heap.size≤g∧Bk w' g 43 (zs.map bF)∧Wf zs∧Hid (zs.length=n)∧Hid (nv zs=v)∧Ext w w'
theorem UU {s:Nat}(hs:s<64):x*2^s%18446744073709551616=(x%2^(64-s))*2^s∧x*2^s=x*2^s%18446744073709551616+WB*(x/2^(64-s)):=by
 have e:18446744073709551616=2^(64-s)*2^s:=by rw [←eS,lJ i9]
 have h1:x*2^s%18446744073709551616=(x%2^(64-s))*2^s:=by rw [e,CK]
 refine⟨h1,?_⟩;rw [h1,dJ,e];have h2:=kF x (2^(64-s))
 conv=>lhs;rw [←h2]
 rw [eE,cU,dH (x/2^(64-s)),←cU]
theorem UW {s r30 r32:Nat}(hs:s<64)(hx:xs.getD i 0=x)(hi:i<l.length)(hc:c<2^s)(h30:r30=x*2^s%18446744073709551616)(h32:r32=r30||| c)(hd:d=x/2^(64-s))(h:nv (l.take i)+WB^i*c=nv (xs.take i)*2^s):nv ((l.set i r32).take (i+1))+WB^(i+1)*d=nv (xs.take (i+1))*2^s:=by
 obtain⟨o,G⟩:=UU (x:=x) hs;have E:r32=r30+c:=by rw [h32,h30,o,EI hc]
 have F:nv (xs.take (i+1))=nv (xs.take i)+WB^i*x:=by
  by_cases f:i<xs.length
  ·rw [gA xs i f,hx]
  ·have:x=0:=by rw [←hx];simp [bL,jT (show xs.length≤i by omega)]
   rw [this,List.take_of_length_le i9,List.take_of_length_le i9];simp
 rw [EO hi,F,eE,←h,E,hd,dS,cU (WB^i) WB,cU (WB^i) x,G,←h30];simp only [dE];omega
theorem UX {s:Nat}(hx:x≤18446744073709551615)(hs:s<64):x/2^(64-s)<2^s:=by
 refine yX ?_;rw [←eS,lJ i9];omega
theorem PC (hx:Rd w A m cap xs)(_hl:m≤1099511627775){s:Nat}(hs:s<64)(hn:n≤1099511627776)(hmn:m≤n)(hfit:nv xs*2^s<WB^n):aQ aM 172 #[up A m cap,t9 (s:Int),no (n:Int)] w (a34 w (nv xs*2^s) n):=by
 have hlx:=Lib.hid hx.len;have HF:=Lib.hid hfit;clear hfit;have hsi:(s:Int)≤63:=by omega
 have hmk:=mB (P:=aM) Tryz.underlying22 j9 J yd (n:Int) i9 i9;rw [jB] at hmk
 go_enter Tryz.func172,Tryz.ntmps172
 go_wp2_with fail
 clear hmk;obtain⟨g,hg⟩:∃g,w.heap.size=g:=⟨_,rfl⟩;rw [hg];obtain⟨wa,hwa⟩:∃wa,w.alloc (.cells (zc (.int .u64 0) n) 43)=wa:=⟨_,rfl⟩;rw [hwa]
 have hbk:Bk wa g 43 ((dF n 0).map bF):=by
  rw [←hwa,←hg,←kG];exact Bk.new' _ _ _
 have hea:Ext w wa:=by rw [←hwa];exact (Ext.refl w).alloc _
 have hgs:w.heap.size≤g:=by rw [hg];exact aU _
 clear hg hwa
 go_loopw [15,8] (fun u v wr=>∃(i c:Nat) (l:List Nat),i≤n∧c≤18446744073709551615∧Hid (c<2^s)∧u= no (i:Int)∧v= t9 (c:Int)∧Hid (l.length=n)∧Wf l∧Bk wr g 43 (l.map bF)∧
  Hid (nv (l.take i)+WB^i*c=nv (xs.take i)*2^s)∧Ext w wr) (fun u v wr=>n-(intOf u).toNat)
 case atStart=>exact⟨0,0,_,bX _,bX _,oE s,rfl,rfl,List.length_replicate,oZ _,hbk,by simp [Hid,nv],hea⟩
 case round=>
  obtain⟨i,c,l,hi,hcb,hc,rfl,rfl,hll,hwl,hb,hv,hr⟩:=hrel
  clear hbk hea
  by_cases hin:i<n
  ·obtain⟨o,ho,_,hco⟩:=hb.word hwl (i:=i) (by rw [hll.out];omega)
   have hfr:=hb.frozen i
   have key:∀x r32 d r30:Nat,xs.getD i 0=x→r30=x*2^s%18446744073709551616→r32=r30||| c→d=x/2^(64-s)→r32≤18446744073709551615→x≤18446744073709551615→∀w2,Upd g wr w2→Bk w2 g 43 ((l.set i r32).map bF)→Ext w w2→
     ∃(j c:Nat) (l:List Nat),j≤n∧c≤18446744073709551615∧Hid (c<2^s)∧eL .i64 ((i:Int)+1)= no (j:Int)∧eL .u64 (d:Int)= t9 (c:Int)∧Hid (l.length=n)∧Wf l∧Bk w2 g 43 (l.map bF)∧
      Hid (nv (l.take j)+WB^j*c=nv (xs.take j)*2^s)∧Ext w w2:=by
    intro x r32 d r30 h1 h2 h3 h4 h5 h6 w2 hu hb2 he
    have h7:=UX h6 hs
    rw [←h4] at h7
    have h8:2^s≤2^63:=fZ i9 i9
    exact⟨i+1,d,l.set i r32,by omega,by omega,h7,rfl,rfl,(show _=_ by rw [List.length_set];exact hll.out),j0 hwl i (by rw [dJ];omega),hb2,UW hs h1 (by rw [hll.out];omega) hc.out h2 h3 h4 hv.out,he⟩
   have KEY:=Lib.hid key
   clear key
   have hs64:s≤64:=by omega
   by_cases him:i<m
   ·obtain⟨a,x,rfl,hxk,hxb,hcx⟩:=(hx.ext hr).get (i:=i) i9
    by_cases hs0:0<s
    ·go_wp2_with (first
      | ((with_reducible refine dU (some 30) ?_);refine fD rfl rfl rfl rfl rfl (sY hs64) ?_;intro r30 h30 hb30)
      | ((with_reducible refine dU (some 32) ?_);refine fD rfl rfl rfl rfl rfl (wY hb30 hcb) ?_ (hf:=(by have:=sN (n:=64) (x:=r30) (y:=c) i9 i9;omega));intro r32 h32 hb32)
      | ((with_reducible refine dU (some 38) ?_);refine fD rfl rfl rfl rfl rfl (sX (x:=64) (y:=s) i9) ?_;intro r38 h38 hb38;obtain rfl:r38=64-s:=(by have:=h38.out;omega))
      | ((with_reducible refine dU (some 39) ?_);refine fD rfl rfl rfl rfl rfl (qG (s:=64-s) i9) ?_ (hf:=(by have:=gN x (2^(64-s));omega));intro d hd hdb))
     go_roundw
     case rel=>exact KEY.out x r32 d r30 hxk.out h30.out h32.out hd.out hb32 hxb _ ((Upd.refl _ _).setCell _ _) (by rw [←eM];exact hb.set _ _) (hr.setCell hgs _)
     case measure=>simp [intOf];omega
    ·go_wp2_with (first
      | ((with_reducible refine dU (some 30) ?_);refine fD rfl rfl rfl rfl rfl (sY hs64) ?_;intro r30 h30 hb30)
      | ((with_reducible refine dU (some 32) ?_);refine fD rfl rfl rfl rfl rfl (wY hb30 hcb) ?_ (hf:=(by have:=sN (n:=64) (x:=r30) (y:=c) i9 i9;omega));intro r32 h32 hb32))
     go_roundw
     case rel=>exact KEY.out x r32 0 r30 hxk.out h30.out h32.out (by rw [show s=0 from by omega,jL i9]) hb32 hxb _ ((Upd.refl _ _).setCell _ _) (by rw [←eM];exact hb.set _ _) (hr.setCell hgs _)
     case measure=>simp [intOf];omega
   ·have hx0:Hid (xs.getD i 0=0):=by
     show _=_
     rw [bL,jT (by rw [hlx.out];omega)];rfl
    by_cases hs0:0<s
    ·go_wp2_with (first
      | ((with_reducible refine dU (some 30) ?_);refine fD rfl rfl rfl rfl rfl (sY (x:=0) hs64) ?_;intro r30 h30 hb30)
      | ((with_reducible refine dU (some 32) ?_);refine fD rfl rfl rfl rfl rfl (wY hb30 hcb) ?_ (hf:=(by have:=sN (n:=64) (x:=r30) (y:=c) i9 i9;omega));intro r32 h32 hb32)
      | ((with_reducible refine dU (some 38) ?_);refine fD rfl rfl rfl rfl rfl (sX (x:=64) (y:=s) i9) ?_;intro r38 h38 hb38;obtain rfl:r38=64-s:=(by have:=h38.out;omega))
      | ((with_reducible refine dU (some 39) ?_);refine fD rfl rfl rfl rfl rfl (qG (x:=0) (s:=64-s) i9) ?_ (hf:=(by have:=gN 0 (2^(64-s));omega));intro d hd hdb))
     go_roundw
     case rel=>exact KEY.out 0 r32 d r30 hx0.out h30.out h32.out hd.out hb32 i9 _ ((Upd.refl _ _).setCell _ _) (by rw [←eM];exact hb.set _ _) (hr.setCell hgs _)
     case measure=>simp [intOf];omega
    ·go_wp2_with (first
      | ((with_reducible refine dU (some 30) ?_);refine fD rfl rfl rfl rfl rfl (sY (x:=0) hs64) ?_;intro r30 h30 hb30)
      | ((with_reducible refine dU (some 32) ?_);refine fD rfl rfl rfl rfl rfl (wY hb30 hcb) ?_ (hf:=(by have:=sN (n:=64) (x:=r30) (y:=c) i9 i9;omega));intro r32 h32 hb32))
     go_roundw
     case rel=>exact KEY.out 0 r32 0 r30 hx0.out h30.out h32.out ym hb32 i9 _ ((Upd.refl _ _).setCell _ _) (by rw [←eM];exact hb.set _ _) (hr.setCell hgs _)
     case measure=>simp [intOf];omega
  ·obtain rfl:i=n:=by omega
   go_wp2_with fail
   go_ret
   refine⟨g,l,rfl,hgs,hb,hwl,hll,?_,hr⟩
   have h1:=hv.out
   rw [List.take_of_length_le (by rw [hll.out];exact aU _),List.take_of_length_le (by rw [hlx.out];exact hmn)] at h1
   have h2:=HF.out
   show _=_
   rcases lT c with h0 | h0
   ·rw [h0,iV] at h1;exact h1
   ·have:=Nat.le_mul_of_pos_right (WB^i) h0
    omega
def QY (g:Nat)(zs:List Nat)(K:Nat)(P:Nat→Nat→Prop)(w w':a6):Prop:=
 ∃zs' c,Bk w' g 43 (zs'.map bF)∧Wf zs'∧Hid (zs'.length=zs.length)∧Hid (zs'.drop K=zs.drop K)∧c≤1∧Hid (P (nv zs') c)∧Upd g w w'
theorem BU (h:i<K)(x:Nat):(l.set i x).drop K=l.drop K:=by rw [List.drop_set_of_lt h]
theorem a2j {o:Nat}(hz:Bk w g 43 (zs.map bF))(hwz:Wf zs)(hy:Rd w B m cap' ys)(hne:∀a,B=some a→a.block≠g)(hK:o+m+1≤zs.length)(hm:m≤1099511627776)(_ho:o≤1099511627776):aQ aM 175 #[up (some ⟨g,o,none⟩) (m+1) cap,up B m cap'] w (fun e w'=>e= .returned (.tuple #[])∧QY g zs (o+m+1) (fun v c=>v+WB^(o+m+1)*c=nv zs+WB^o*nv ys) w w'):=by
 have hly:=Lib.hid hy.len;have HK:=Lib.hid hK;clear hK
 go_enter Tryz.func175,Tryz.ntmps175
 go_wp2_with fail
 go_loopw [8,4] (fun u v wr=>∃(i c:Nat) (l:List Nat),i≤m∧c≤1∧u= no (i:Int)∧v= t9 (c:Int)∧Hid (l.length=zs.length)∧Wf l∧Bk wr g 43 (l.map bF)∧Hid (l.drop (o+m+1)=zs.drop (o+m+1))∧
  Hid (nv l+WB^(o+i)*c=nv zs+WB^o*nv (ys.take i))∧Upd g w wr) (fun u v wr=>m-(intOf u).toNat)
 case atStart=>exact⟨0,0,zs,bX _,bX _,rfl,rfl,rfl,hwz,hz,rfl,by simp [Hid,nv],Upd.refl _ _⟩
 case round=>
  obtain⟨i,c,l,hi,hc,rfl,rfl,hll,hwl,hb,hdr,hv,hr⟩:=hrel
  by_cases him:i<m
  ·obtain⟨a,y,rfl,hyk,hyb,hcy⟩:=(hy.upd hr hne).get (i:=i) i9
   obtain⟨z,hzk,hzb,hcz⟩:=hb.word hwl (i:=o+i) (by rw [hll.out];have:=HK.out;omega)
   have hfr:=hb.frozen (o+i)
   obtain⟨s,d,hs,hsb,hd,hadd⟩:=CA hc hzb hyb
   go_wp2_with fail
   go_region
   go_wp2_with fail
   go_roundw
   case rel=>exact⟨i+1,d,l.set (o+i) s,by omega,hd,by go_num,rfl,by show _=_;rw [List.length_set];exact hll.out,j0 hwl _ (by rw [dJ];omega),by rw [←eM];exact (hb.set _ _).drew,
    (show _=_ by rw [BU i9];exact hdr.out),QF (by rw [hll.out];have:=HK.out;omega) hv.out hzk.out (by rw [hly.out];omega) hyk.out hs.out,(hr.setCell _ _).drew⟩
   case measure=>simp [intOf];omega
  ·obtain rfl:i=m:=by omega
   obtain⟨z,hzk,hzb,hcz⟩:=hb.word hwl (i:=o+i) (by rw [hll.out];have:=HK.out;omega)
   have hfr:=hb.frozen (o+i)
   go_wp2_with ((with_reducible refine dU (some 34) ?_);refine fD J J J J J DD ?_;intro s hs hsb)
   go_end0
   refine⟨rfl,l.set (o+i) s,(z+c)/18446744073709551616,by rw [←eM];exact hb.set _ _,j0 hwl _ (by rw [dJ];omega),(show _=_ by rw [List.length_set];exact hll.out),(show _=_ by rw [BU i9];exact hdr.out),by omega,?_,hr.setCell _ _⟩
   have h:=QE (k:=o+i) (c:=c) (s:=s) (d:=(z+c)/18446744073709551616) (by rw [hll.out];have:=HK.out;omega) hv.out hzk.out (by rw [hs.out,dJ];exact kF _ _)
   rwa [List.take_of_length_le (by rw [hly.out];exact aU _)] at h
theorem TO {o t z s lo:Nat}(hi2:o+i<l.length)(h:nv l+WB^o*(d*nv (ys.take i))=V+WB^(o+i)*(c+t))(hz:l.getD (o+i) 0=z)(hy:i<ys.length)(hyk:ys.getD i 0=y)(hp:lo+WB*hi=d*y)(ha:lo2+WB*cc=lo+c)(hs:s+lo2+t=z+WB*u):nv (l.set (o+i) s)+WB^o*(d*nv (ys.take (i+1)))=V+WB^(o+i+1)*((hi+cc)+u):=by
 have E:=qM hi2 s;rw [hz] at E;rw [gA ys i hy,hyk,dE d,dE (WB^o),show WB^o*(d*(WB^i*y))=WB^(o+i)*(d*y) from by rw [eS,Nat.mul_left_comm d,←cU (WB^o)],dS,cU (WB^(o+i)),←hp];have f:WB^(o+i)*(s+lo2+t)=WB^(o+i)*(z+WB*u):=by rw [hs]
 have F:WB^(o+i)*(lo2+WB*cc)=WB^(o+i)*(lo+c):=by rw [ha]
 simp only [dE] at f F h⊢;omega
theorem TN {t z s A:Nat}(hi2:k<l.length)(h:nv l+A=V+WB^k*(c+t))(hz:l.getD k 0=z)(hs:s+c+t=z+WB*u):nv (l.set k s)+A=V+WB^(k+1)*u:=by
 have o:=qM hi2 s;rw [hz] at o;rw [dS,cU];have f:WB^k*(s+c+t)=WB^k*(z+WB*u):=by rw [hs]
 simp only [dE] at f h⊢;omega
theorem TP {lo:Nat}(hd:d≤18446744073709551615)(hy:y≤18446744073709551615)(hc:c≤18446744073709551615)(hp:lo+WB*hi=d*y)(ha:lo2+WB*cc=lo+c):hi+cc≤18446744073709551615:=by
 have h1:d*y≤18446744073709551615*18446744073709551615:=kP hd hy;rw [dJ] at hp ha;omega
theorem a2d {o:Nat}(hz:Bk w g 43 (zs.map bF))(hwz:Wf zs)(hy:Rd w B m cap' ys)(hne:∀a,B=some a→a.block≠g)(hK:o+m+1≤zs.length)(hm:m≤1099511627776)(_ho:o≤1099511627776)(hd:d≤18446744073709551615):aQ aM 174 #[up (some ⟨g,o,none⟩) (m+1) cap,up B m cap',t9 (d:Int)] w (fun e w'=>∃b:Bool,e= .returned (.bool b)∧QY g zs (o+m+1) (fun v c=>(b=true↔c=1)∧v+WB^o*(d*nv ys)=nv zs+WB^(o+m+1)*c) w w'):=by
 have hly:=Lib.hid hy.len;have HK:=Lib.hid hK;clear hK
 go_enter Tryz.func174,Tryz.ntmps174
 go_wp2_with fail
 go_loopw [16,7,8] (fun u v x wr=>∃(i c t:Nat) (l:List Nat),i≤m∧c≤18446744073709551615∧t≤1∧u= no (i:Int)∧v= t9 (c:Int)∧x= t9 (t:Int)∧Hid (l.length=zs.length)∧Wf l∧Bk wr g 43 (l.map bF)∧Hid (l.drop (o+m+1)=zs.drop (o+m+1))∧
  Hid (nv l+WB^o*(d*nv (ys.take i))=nv zs+WB^(o+i)*(c+t))∧Upd g w wr) (fun u v x wr=>m-(intOf u).toNat)
 case atStart=>exact⟨0,0,0,zs,bX _,bX _,bX _,rfl,rfl,rfl,rfl,hwz,hz,rfl,by simp [Hid,nv],Upd.refl _ _⟩
 case round=>
  obtain⟨i,c,t,l,hi,hc,ht,rfl,rfl,rfl,hll,hwl,hb,hdr,hv,hr⟩:=hrel
  by_cases him:i<m
  ·obtain⟨a,y,rfl,hyk,hyb,hcy⟩:=(hy.upd hr hne).get (i:=i) i9
   obtain⟨z,hzk,hzb,hcz⟩:=hb.word hwl (i:=o+i) (by rw [hll.out];have:=HK.out;omega)
   have hfr:=hb.frozen (o+i)
   go_wp2_with fail
   refine (bits_Mul64 d y hd hyb _).mono ?_
   rintro e w1 ⟨hi',lo,hp,hhb,hlb,rfl,rfl⟩
   obtain⟨lo2,cc,hlo2,hlo2b,hccb,hadd⟩:=yK hlb hc
   obtain⟨s,u,hs,hsb,hu,hsub⟩:=zR ht hzb hlo2b
   have hcar:(hi':Int)+(cc:Int)≤18446744073709551615:=by have:=TP hd hyb hc hp.out hlo2.out;omega
   go_wp2_with fail
   go_roundw
   case rel=>exact⟨i+1,hi'+cc,u,l.set (o+i) s,by omega,by omega,hu,by go_num,by go_num,rfl,by show _=_;rw [List.length_set];exact hll.out,j0 hwl _ (by rw [dJ];omega),by rw [←eM];exact (hb.set _ _),
    (show _=_ by rw [BU i9];exact hdr.out),TO (by rw [hll.out];have:=HK.out;omega) hv.out hzk.out (by rw [hly.out];omega) hyk.out hp.out hlo2.out hs.out,(hr.setCell _ _)⟩
   case measure=>simp [intOf];omega
  ·obtain rfl:i=m:=by omega
   obtain⟨z,hzk,hzb,hcz⟩:=hb.word hwl (i:=o+i) (by rw [hll.out];have:=HK.out;omega)
   have hfr:=hb.frozen (o+i)
   obtain⟨s,u,hs,hsb,hu,hsub⟩:=zR ht hzb hc
   have hfin:=TN (k:=o+i) (by rw [hll.out];have:=HK.out;omega) hv.out hzk.out hs.out
   rw [List.take_of_length_le (by rw [hly.out];exact aU _)] at hfin
   have HFIN:=Lib.hid hfin
   clear hfin
   go_wp2_with fail
   go_ret
   refine⟨_,rfl,l.set (o+i) s,u,by rw [←eM];exact hb.set _ _,j0 hwl _ (by rw [dJ];omega),(show _=_ by rw [List.length_set];exact hll.out),(show _=_ by rw [BU i9];exact hdr.out),hu,⟨?_,HFIN.out⟩,hr.setCell _ _⟩
   simp
   omega
def QX (u2 u1 u0 v1 v0:Nat)(w:a6)(e:eF)(w':a6):Prop:=
 ∃d:Nat,e= .returned (t9 (d:Int))∧d≤18446744073709551615∧Hid (d*(v1*WB+v0)≤(u2*WB+u1)*WB+u0)∧Hid (d=18446744073709551615∨(u2*WB+u1)*WB+u0<(d+1)*(v1*WB+v0))∧∃m,w'=w.drewN m
theorem a0N {T:Nat}(h1:d≤18446744073709551615)(h2:d*V≤T)(h3:d=18446744073709551615∨T<(d+1)*V)(k1:D≤18446744073709551615)(k2:D*V≤T)(k3:D=18446744073709551615∨T<(D+1)*V):d=D:=by
 have key:∀a b:Nat,a≤18446744073709551615→a*V≤T→(b=18446744073709551615∨T<(b+1)*V)→a≤b:=by
  intro a b _ h k
  rcases k with k | k
  ·omega
  ·refine rA (fun f=>?_)
   have:=fC V (q7 f)
   rw [Nat.succ_eq_add_one] at this
   omega
 exact Nat.le_antisymm (key _ _ h1 h2 k3) (key _ _ k1 k2 h3)
theorem a0P (T V:Nat)(hV:0<V):∃D:Nat,D≤18446744073709551615∧D*V≤T∧(D=18446744073709551615∨T<(D+1)*V):=by
 by_cases h:T/V≤18446744073709551615
 ·exact⟨T/V,h,Nat.div_mul_le_self _ _,cN (by rw [dH];exact sP T hV)⟩
 refine⟨18446744073709551615,aU _,?_,cJ rfl⟩;have h1:=Nat.div_mul_le_self T V;have h2:=fC V (Nat.le_of_lt (pC h));omega
structure Gs (u2 u1 u0 v1 v0 d rest:Nat):Prop where
 eq:d*v1+rest=u2*WB+u1
 top:d=18446744073709551615∨(u2*WB+u1)*WB+u0<(d+1)*(v1*WB+v0)
theorem Gs.done {rest:Nat}(h:Gs u2 u1 u0 v1 v0 d rest)(hd:d*v0≤rest*WB+u0):d*(v1*WB+v0)≤(u2*WB+u1)*WB+u0:=by
 rw [←h.eq,eE,dE,←cU];omega
theorem Gs.step {rest:Nat}(h:Gs u2 u1 u0 v1 v0 (d+1) rest)(hd:rest*WB+u0<(d+1)*v0):Gs u2 u1 u0 v1 v0 d (rest+v1):=by
 refine⟨?_,cN ?_⟩
 ·rw [←h.eq,pB];omega
 rw [←h.eq,dE,eE,←cU];omega
theorem Gs.cmp {lo p rest:Nat}(hp:lo+WB*hi=p)(hlo:lo≤18446744073709551615)(hu:u0≤18446744073709551615):(hi<rest∨hi=rest∧lo≤u0)↔p≤rest*WB+u0:=by
 rw [←hp,dJ];omega
theorem Gs.over {rest:Nat}(hd:d≤18446744073709551615)(hv:v0≤18446744073709551615)(hr:18446744073709551616≤rest):d*v0≤rest*WB+u0:=by
 have h1:d*v0≤18446744073709551615*18446744073709551615:=kP hd hv;rw [dJ];omega
theorem a2i (h2:u2≤v1)(h1:u1≤18446744073709551615)(h0:u0≤18446744073709551615)(hv1:v1≤18446744073709551615)(hv0:v0≤18446744073709551615)(hpos:0<v1)(w:a6):aQ aM 173 #[t9 (u2:Int),t9 (u1:Int),t9 (u0:Int),t9 (v1:Int),t9 (v0:Int)] w (QX u2 u1 u0 v1 v0 w):=by
 go_enter Tryz.func173,Tryz.ntmps173
 go_wp2_with fail
 go_step3
 go_upto_if 21 with (fail)
 go_cut [11,12] (fun a b wc=>∃d r:Nat,a= t9 (d:Int)∧b= t9 (r:Int)∧d≤18446744073709551615∧r≤18446744073709551615∧Hid (Gs u2 u1 u0 v1 v0 d r)∧∃m,wc=w.drewN m)
 case first=>
  by_cases hlt:v1≤u2
  ·obtain⟨s,c,hs,hsb,hc,hadd⟩:=yK h1 hv1
   have hG:Hid (Gs u2 u1 u0 v1 v0 18446744073709551615 (u1+v1)):=by
    refine⟨?_,cJ rfl⟩
    obtain rfl:u2=v1:=by omega
    rw [dJ];omega
   by_cases hc0:c=0
   ·subst hc0
    have b0:((0:Int) != 0)=false:=rfl
    go_wp2_with fail
    go_meet
    case rel=>
     have e:s=u1+v1:=by have:=hs.out;omega
     exact⟨18446744073709551615,s,rfl,rfl,by omega,hsb,by rw [e];exact hG,0,rfl⟩
   ·obtain rfl:c=1:=by omega
    have b1:((1:Int) != 0)=true:=rfl
    go_wp2_with fail
    simp only [Exit.noGoto_ret]
    go_ret
    exact⟨18446744073709551615,rfl,by omega,hG.out.done (Gs.over i9 hv0 (by have:=hs.out;rw [dJ] at this;omega)),cJ rfl,0,rfl⟩
  ·go_wp2_with fail
   refine (Q9 (show u2<v1 by omega) h1 hv1 _).mono ?_
   rintro e w1 ⟨d,r,hd,hr,hdb,hrb,rfl,m1,rfl⟩
   go_wp2_with fail
   go_meet
   case rel=>
    have e1:d*v1+r=u2*WB+u1:=by rw [hd.out,hr.out,dH];exact pD _ _
    refine⟨d,r,rfl,rfl,hdb,by omega,⟨e1,cN ?_⟩,m1,rfl⟩
    rw [←e1,eE,eE,Nat.one_mul,dE,←cU]
    have h3:r*WB+WB≤v1*WB:=by
     have:=fC WB (q7 hrb)
     rwa [pB] at this
    have h4:u0<WB:=by rw [dJ];omega
    omega
 case rest=>
  obtain⟨d0,r0,rfl,rfl,hd0,hr0,hG0,hx0⟩:=hcut
  go_wp2_with fail
  go_step3
  go_wp2_with fail
  go_loopw [11,12] (fun a b wr=>∃d r:Nat,a= t9 (d:Int)∧b= t9 (r:Int)∧d≤18446744073709551615∧r≤18446744073709551615∧Hid (Gs u2 u1 u0 v1 v0 d r)∧wc=wr) (fun a b wr=>(intOf a).toNat)
  case atStart=>exact⟨d0,r0,rfl,rfl,hd0,hr0,hG0,rfl⟩
  case round=>
   obtain⟨d,r,rfl,rfl,hd,hr,hG,rfl⟩:=hrel
   clear hG0 hd0 hr0
   go_wp2_with fail
   refine (bits_Mul64 d v0 hd hv0 _).mono ?_
   rintro e w1 ⟨hi,lo,hp,hhb,hlb,rfl,rfl⟩
   have hcmp:=Lib.hid (Gs.cmp (rest:=r) hp.out hlb h0)
   have fin:∀d:Nat,d≤18446744073709551615→d*(v1*WB+v0)≤(u2*WB+u1)*WB+u0→(d=18446744073709551615∨(u2*WB+u1)*WB+u0<(d+1)*(v1*WB+v0))→QX u2 u1 u0 v1 v0 w (.returned (t9 (d:Int))) wc:=fun d a b c=>⟨d,rfl,a,b,c,hx0⟩
   have FIN:=Lib.hid fin
   clear fin
   have bad:¬d*v0≤r*WB+u0→∃d',d=d'+1∧Gs u2 u1 u0 v1 v0 d' (r+v1):=by
    intro h
    cases d with
    | zero=>simp at h
    | succ d'=>exact⟨d',rfl,hG.out.step i9⟩
   have BAD:=Lib.hid bad
   clear bad
   obtain⟨s,c,hs,hsb,hc,hadd⟩:=yK hr hv1
   by_cases hA:hi<r
   ·go_wp2_with fail
    go_ret
    exact FIN.out d hd (hG.out.done (hcmp.out.1 (cJ hA))) hG.out.top
   ·by_cases hB:hi=r
    ·have b1:((hi:Int)==(r:Int))=true:=by simp [hB]
     have HB:=Lib.hid hB
     clear hB
     by_cases hC:lo≤u0
     ·go_wp2_with fail
      go_ret
      exact FIN.out d hd (hG.out.done (hcmp.out.1 (cN ⟨HB.out,hC⟩))) hG.out.top
     ·obtain⟨d',rfl,hG'⟩:=BAD.out (fun h=>by have:=hcmp.out.2 h;have:=HB.out;omega)
      have HG':=Lib.hid hG'
      clear hG'
      have ed:((d'+1:Nat):Int)-1=(d':Int):=by omega
      by_cases hc0:c=0
      ·subst hc0
       have b0:((0:Int) != 0)=false:=rfl
       go_wp2_with fail
       go_roundw
       case rel=>exact⟨d',s,rfl,rfl,by omega,hsb,by rw [show s=r+v1 from by have:=hs.out;omega];exact HG',xl⟩
       case measure=>simp [intOf]
      ·obtain rfl:c=1:=by omega
       have b0:((1:Int) != 0)=true:=rfl
       go_wp2_with fail
       go_ret
       exact FIN.out d' i9 (HG'.out.done (Gs.over i9 hv0 (by have:=hs.out;rw [dJ] at this;omega))) HG'.out.top
    ·have b1:((hi:Int)==(r:Int))=false:=by simp;omega
     obtain⟨d',rfl,hG'⟩:=BAD.out (fun h=>by have:=hcmp.out.2 h;omega)
     have HG':=Lib.hid hG'
     clear hG'
     have ed:((d'+1:Nat):Int)-1=(d':Int):=by omega
     by_cases hc0:c=0
     ·subst hc0
      have b0:((0:Int) != 0)=false:=rfl
      go_wp2_with fail
      go_roundw
      case rel=>exact⟨d',s,rfl,rfl,by omega,hsb,by rw [show s=r+v1 from by have:=hs.out;omega];exact HG',xl⟩
      case measure=>simp [intOf]
     ·obtain rfl:c=1:=by omega
      have b0:((1:Int) != 0)=true:=rfl
      go_wp2_with fail
      go_ret
      exact FIN.out d' i9 (HG'.out.done (Gs.over i9 hv0 (by have:=hs.out;rw [dJ] at this;omega))) HG'.out.top
theorem D1 (h:n≤9223372036854775807:=by omega):IntKind.i64.wrap (n:Int)=(n:Int):=by
 simp only [yY,wT,wS];simp;omega
theorem FB (hy:y≠0)(hx:x≤9223372036854775807)(P:cO)(t:aS)(w:a6):(binOp .quo t (no (x:Int)) (no (y:Int))).run P w= .ok (no (x/y:Nat)) w:=by
 have h1:=gN x y
 have e:IntKind.i64.wrap ((x:Int).tdiv (y:Int))=((x/y:Nat):Int):=by
  have:(x:Int).tdiv (y:Int)=((x/y:Nat):Int):=by rw [yZ i9];simp
  rw [this,D1]
 simp only [binOp,yU];simp [hy];rw [show (↑x/ ↑y:Int)=((x/y:Nat):Int) from by simp] at*;simpa [yZ] using e
theorem NZ (hy:y≠0)(hx:x≤9223372036854775807)(P:cO)(t:aS)(w:a6):(binOp .rem t (no (x:Int)) (no (y:Int))).run P w= .ok (no (x%y:Nat)) w:=by
 have h1:=Nat.mod_le x y
 have e:IntKind.i64.wrap ((x:Int).tmod (y:Int))=((x%y:Nat):Int):=by
  have:(x:Int).tmod (y:Int)=((x%y:Nat):Int):=by rw [Int.tmod_eq_emod_of_nonneg i9];simp
  rw [this,D1]
 simp only [binOp,yU];simp [hy];rw [show (↑x% ↑y:Int)=((x%y:Nat):Int) from by simp] at*;simp [Int.tmod_eq_emod_of_nonneg]
theorem oJ {Q:dX→Act→a6→Prop}(hgd:o.guard=none){t:aS}{x y:cR}(ho:o.op= .binOp op t x y ty){f:Nat}(hx:a.eval x=vx)(hy:a.eval y=vy)(hne:F9 op=false)(hr:∀(P:cO) (t:aS) (w:a6),(binOp op t vx vy).run P w= .ok (no (f:Int)) w)(h:∀r:Nat,Hid (r=f)→wpList P ops Q rest (a.put o.dst (no (r:Int))) w):wpList P ops Q (o::rest) a w:=
 I3 hgd ho hx hy hne (fun w=>hr P t w) (h f J)
theorem a3y (hx:x≤18446744073709551615)(hy:y≤18446744073709551615):bits BinOp.or IntKind.u64 (x:Int) (y:Int)=((x||| y:Nat):Int):=by
 have e:IntKind.u64.wrap ((rC 64 (x:Int)||| rC 64 (y:Int)).toNat:Int)=((x||| y:Nat):Int):=by
  rw [BitVec.toNat_or,rO hx,rO hy,oI,iW (sN (n:=64) i9 i9)]
 exact e
theorem RW (x k:Nat):IntKind.u64.wrap ((x:Int)*2^k)=((x*2^k%18446744073709551616:Nat):Int):=by
 rw [←oI];simp
theorem UT {s:Nat}(hs:s<64):x/2^s||| (y*2^(64-s)%18446744073709551616)=x/2^s+(y%2^s)*2^(64-s)∨18446744073709551616≤x:=by
 by_cases hx:x<18446744073709551616
 ·left;have e:18446744073709551616=2^s*2^(64-s):=by rw [←eS,show s+(64-s)=64 from by omega]
  have h1:y*2^(64-s)%18446744073709551616=(y%2^s)*2^(64-s):=by rw [e,CK]
  have h2:x/2^s<2^(64-s):=yX (by rw [←e];exact hx);rw [h1,Nat.or_comm,EI h2,Nat.add_comm]
 right;omega
theorem JE {z s:Nat}(hi:i<l.length)(hix:i<xs.length)(hx:xs.getD i 0=x)(_hy:xs.getD (i+1) 0=y)(hz:z=x/2^s+(y%2^s)*2^(64-s))(hs:s<64)(h:nv (l.take i)*2^s+r0=nv (xs.take i)+WB^i*(x%2^s)):nv ((l.set i z).take (i+1))*2^s+r0=nv (xs.take (i+1))+WB^(i+1)*(y%2^s):=by
 rw [EO hi,gA xs i hix,hx,eE]
 have o:z*2^s=x/2^s*2^s+WB*(y%2^s):=by
  rw [hz,eE,cU,←eS,lJ i9,←nJ,dH WB]
 have f:x/2^s*2^s+x%2^s=x:=by rw [dH];exact pD _ _
 have E:WB^i*x=WB^i*(x/2^s*2^s)+WB^i*(x%2^s):=by rw [←dE,f]
 rw [cU (WB^i) z,o,E,dS,cU (WB^i) WB,dE];omega
theorem Z3 (hx:Rd w A m cap xs)(hl:m≤1099511627775)(hn:n≤9223372036854775807):aQ aM 176 #[up A m cap,no (n:Int)] w (yN w (nv xs/2^n) 0):=by
 go_enter Tryz.func176,Tryz.ntmps176
 go_wp2_with fail
 refine (mE hx).mono ?_;rintro e w' ⟨k,hk,hkn,rfl,rfl⟩
 go_upto_region 4 with (first
  | ((with_reducible refine dU (some 16) ?_);refine oJ rfl rfl rfl rfl rfl (FB (x:=n) (y:=64) i9 hn) ?_;intro q hq)
  | ((with_reducible refine dU (some 18) ?_);refine oJ rfl rfl rfl rfl rfl (NZ (x:=n) (y:=64) i9 hn) ?_;intro s hs;have hs64:s<64:=(by rw [hs.out];exact g7 _ i9);have hqb:q≤9223372036854775807:=(by have:=hq.out;omega)))
 have hnqs:Hid (n=64*q+s):=(show _=_ by rw [hq.out,hs.out];exact (pD _ _).symm);clear hq hs;have hlx:=Lib.hid hx.len;by_cases hkq:k≤q
 ·go_wp2_with fail
  go_ret2
  refine GQ (QP ?_ bN);refine jL ?_;rw [hnqs.out,eS,Nat.pow_mul,←nJ];have h1:=nZ (nv xs);rw [←hk.out] at h1;have h2:WB^k≤WB^q:=fZ iM hkq;have h3:=Nat.le_mul_of_pos_right (WB^q) (oE s);omega
 obtain⟨p,hkp⟩:∃p,k=q+p:=⟨k-q,by omega⟩;have hp:0<p:=by omega
 obtain⟨ys,hys⟩:∃ys,(xs.take k).drop q=ys:=⟨_,rfl⟩;have hyl:Hid (ys.length=p):=(show _=_ by rw [←hys,iK,eB,hlx.out];omega)
 have hyv:Hid (nv xs/2^n=nv ys/2^s):=by
  show _=_
  rw [hnqs.out,eS,Nat.pow_mul,←nJ,←Nat.div_div_eq_div_mul]
  congr 1
  have h1:=rP hx.wf hk.out
  have h2:=qL (xs.take k) q (by rw [eB,hlx.out];omega)
  have h3:=nX (uA hx.wf k) q
  rw [←h1,h2,hys,Nat.add_comm,r9 (iI iM),jL h3,fN]
 have hyg:Hid (∀i,i<p→ys.getD i 0=xs.getD (q+i) 0):=by
  intro i hi
  rw [←hys]
  simp only [bL,nO,lK]
  rw [if_pos i9]
 clear hys hk;have hmk:=mB (P:=aM) Tryz.underlying22 j9 J yd ((k:Int)-(q:Int)) i9 i9;have et:((k:Int)-(q:Int)).toNat=p:=by omega
 rw [et] at hmk;clear et;have hxn:=Lib.hid hnqs.out;clear hnqs;have hnk:¬(k:Int)≤(q:Int):=by omega
 have hnk0:¬(k:Int)-(q:Int)<0:=by omega
 have HL:=Lib.hid hl;clear hqb hn;have hkp1:k≤q+p:=by omega
 have hkp2:q+p≤k:=by omega
 clear hkp
 go_wp2_with fail
 clear hmk;obtain⟨g,hg⟩:∃g,w.heap.size=g:=⟨_,rfl⟩;rw [hg];obtain⟨wa,hwa⟩:∃wa,w.alloc (.cells (zc (.int .u64 0) p) 43)=wa:=⟨_,rfl⟩;rw [hwa]
 have hbk:Bk wa g 43 ((dF p 0).map bF):=by
  rw [←hwa,←hg,←kG];exact Bk.new' _ _ _
 have hea:Ext w wa:=by rw [←hwa];exact (Ext.refl w).alloc _
 have hgs:w.heap.size≤g:=by rw [hg];exact aU _
 clear hg hwa;have hsb:(s:Int)≤63:=by omega
 have hs64':s≤64:=by omega
 go_loopw [29] (fun u wr=>∃(i:Nat) (l:List Nat),i≤p∧u= no (i:Int)∧Hid (l.length=p)∧Wf l∧Bk wr g 43 (l.map bF)∧
  Hid (nv (l.take i)*2^s+ys.getD 0 0%2^s=nv (ys.take i)+WB^i*(ys.getD i 0%2^s))∧Ext w wr) (fun u wr=>p-(intOf u).toNat)
 case atStart=>exact⟨0,_,bX _,rfl,List.length_replicate,oZ _,hbk,by simp [Hid,nv],hea⟩
 case round=>
  obtain⟨i,l,hi,rfl,hll,hwl,hb,hv,hr⟩:=hrel
  clear hbk hea
  by_cases hip:i<p
  ·obtain⟨a,x,rfl,hxk,hxb,hcx⟩:=(hx.ext hr).get (i:=q+i) i9
   obtain⟨o,ho,_,hco⟩:=hb.word hwl (i:=i) (by rw [hll.out];omega)
   have hfr:=hb.frozen i
   have hxy:Hid (ys.getD i 0=x):=(show _=_ by rw [hyg.out i hip];exact hxk.out)
   by_cases hi1:i+1<p
   ·obtain⟨a',y,ha',hyk,hyb,hcy⟩:=(hx.ext hr).get (i:=q+i+1) i9
    cases ha'
    have hyy:Hid (ys.getD (i+1) 0=y):=(show _=_ by rw [hyg.out (i+1) hi1];exact hyk.out)
    go_upto_region 12 with ((with_reducible refine dU (some 41) ?_);refine fD J J J J J (qG hs64') ?_ (hf:=(by have:=gN x (2^s);omega));intro z hz hzb)
    obtain⟨w2,hw2⟩:∃w2,wr.setCell ⟨g,i,none⟩ (.int .u64 (z:Int))=w2:=⟨_,rfl⟩
    rw [hw2]
    have hb2:Bk w2 g 43 ((l.set i z).map bF):=by rw [←hw2,←eM];exact hb.set i _
    have hr2:Ext w w2:=by rw [←hw2];exact hr.setCell hgs _
    have hwl2:Wf (l.set i z):=j0 hwl i (by rw [dJ];omega)
    have hll2:Hid ((l.set i z).length=p):=(show _=_ by rw [List.length_set];exact hll.out)
    have hz2:Hid ((l.set i z).getD i 0=z):=(show _=_ by have:=hll.out;simp [bL,this,hip])
    clear hw2
    obtain⟨z2,hzk2,hzb2,hcz2⟩:=hb2.word hwl2 (i:=i) (by rw [hll2.out];omega)
    obtain rfl:z2=z:=by rw [←hzk2.out,hz2.out]
    have hfr2:=hb2.frozen i
    obtain⟨a2,y2,ha2,hyk2,_,hcy2⟩:=(hx.ext hr2).get (i:=q+i+1) i9
    cases ha2
    obtain rfl:y2=y:=by rw [←hyk2.out,hyk.out]
    clear hcy hco hb hr hfr hcx hzk2 hyk2
    have hcy4:w2.cell? (⟨a.block,a.off+(q+i+1),none⟩:a7)=some (t9 (y2:Int)):=by simpa [pI] using hcy2
    clear hcy2
    have hmb:y2*2^(64-s)%18446744073709551616≤18446744073709551615:=by omega
    obtain⟨r,hrd⟩:∃r,z2||| (y2*2^(64-s)%18446744073709551616)=r:=⟨_,rfl⟩
    have hrb:r≤18446744073709551615:=by
     have:=sN (n:=64) (x:=z2) (y:=y2*2^(64-s)%18446744073709551616) i9 i9
     omega
    have hbits:Hid (bits BinOp.or IntKind.u64 (z2:Int) (IntKind.u64.wrap ((y2:Int)*2^(64-s)))=(r:Int)):=by
     show _=_
     rw [RW,a3y hzb hmb,hrd]
    have hsum:Hid (r=x/2^s+(y2%2^s)*2^(64-s)):=by
     show _=_
     rw [←hrd,hz.out]
     rcases UT (x:=x) (y:=y2) hs64 with h | h
     ·exact h
     ·omega
    clear hrd hmb
    go_region
    rw [hbits.out]
    go_wp2_with fail
    go_roundw
    case rel=>
     refine⟨i+1,(l.set i z2).set i r,by omega,by go_num,(show _=_ by rw [List.length_set,hll2.out]),j0 hwl2 i (by rw [dJ];omega),by rw [←eM];exact (hb2.set i _).drew,?_,(hr2.setCell hgs _).drew⟩
     show _=_
     rw [List.set_set,hyy.out]
     exact JE (by rw [hll.out];omega) (by rw [hyl.out];omega) hxy.out hyy.out hsum.out hs64 (by rw [←hxy.out];exact hv.out)
    case measure=>simp [intOf];omega
   ·have hi2:¬(q:Int)+(i:Int)+1<(k:Int):=by omega
    have hyz:Hid (ys.getD (i+1) 0=0):=by
     show _=_
     rw [bL,jT (by rw [hyl.out];omega)];rfl
    go_wp2_with ((with_reducible refine dU (some 41) ?_);refine fD J J J J J (qG hs64') ?_ (hf:=(by have:=gN x (2^s);omega));intro z hz hzb)
    go_roundw
    case rel=>
     refine⟨i+1,l.set i z,by omega,by go_num,(show _=_ by rw [List.length_set,hll.out]),j0 hwl i (by rw [dJ];omega),by rw [←eM];exact hb.set i _,?_,hr.setCell hgs _⟩
     have:=JE (l:=l) (y:=0) (z:=z) (by rw [hll.out];omega) (by rw [hyl.out];omega) hxy.out hyz.out (by rw [hz.out];simp) hs64 (by rw [←hxy.out];exact hv.out)
     show _=_
     rw [hyz.out]
     exact this
    case measure=>simp [intOf];omega
  ·obtain rfl:i=p:=by omega
   have hval:Hid (nv l=nv xs/2^n):=by
    show _=_
    have h:=hv.out
    rw [List.take_of_length_le (by rw [hll.out];exact aU _),List.take_of_length_le (by rw [hyl.out];exact aU _)] at h
    have h0:ys.getD i 0=0:=by rw [bL,jT (by rw [hyl.out];exact aU _)];rfl
    rw [h0,Nat.zero_mod,iV,fN] at h
    have h1:=g7 (ys.getD 0 0) (oE s)
    rw [hyv.out,←h,dH,r9 (oE s),jL h1,fN]
   have hr2:Rd wr (some ⟨g,0,none⟩) i i l:=by
    have:=hb.rd hwl (o:=0) (n:=i) (cap:=i) (aU _) (by rw [hll.out];omega) (by rw [eV];omega)
    rwa [iN,List.take_of_length_le (by rw [hll.out];omega)] at this
   have hpm:i≤m:=by omega
   clear hkp1 hkp2
   go_wp2_with fail
   refine (mE hr2).mono ?_
   rintro e w' ⟨t,ht,htn,rfl,rfl⟩
   go_wp2_with fail
   go_ret2
   rw [←hval.out]
   exact GQ (uD (ys:=l) hgs hb hll.out htn (by rw [eV];omega) (qD hwl ht.out).symm hr)
def QR (w:a6)(q r:Nat)(e:eF)(w':a6):Prop:=
 ∃A n cap B m cap',e= .returned (.tuple #[up A n cap,up B m cap'])∧Hid (n=(wd q).length)∧Rd w' A n cap (wd q)∧Own w' w.heap.size 43 1 A n cap ((wd q).map bF)∧
  Hid (m=(wd r).length)∧Rd w' B m cap' (wd r)∧Own w' w.heap.size 43 1 B m cap' ((wd r).map bF)∧Ext w w'
def RetQRA (w:a6)(q r:Nat)(e:eF)(w':a6):Prop:=
 ∃A n cap B m cap',e= .returned (.tuple #[up A n cap,up B m cap'])∧Hid (n=(wd q).length)∧Rd w' A n cap (wd q)∧Own w' w.heap.size 43 1 A n cap ((wd q).map bF)∧
  Hid (m=(wd r).length)∧Rd w' B m cap' (wd r)∧Own w' w.heap.size 43 1 B m cap' ((wd r).map bF)∧Ext w w'∧∀p p',A=some p→B=some p'→p.block≠p'.block
theorem RetQRA.old {e:eF}(h:RetQRA w q r e w'):QR w q r e w':=by
 obtain⟨A,n,cap,B,m,cap',h1,h2,E,f,o,F,G,H,_⟩:=h;exact⟨A,n,cap,B,m,cap',h1,h2,E,f,o,F,G,H⟩
theorem a0O {U M Uh Vh:Nat}(hM:0<M)(hUh:Uh=U/M)(hVh:Vh=V/M)(hbig:WB≤Vh)(hd:d<WB)(h1:d*Vh≤Uh)(h2:d=18446744073709551615∨Uh<(d+1)*Vh)(hU:U<V*WB):U/V≤d∧d≤U/V+1:=by
 have L:0<V:=by
  rcases lT V with h | h
  ·rw [h,wL] at hU;omega
  ·exact h
 constructor
 ·rcases h2 with h | h
  ·have:U/V<WB:=yX hU;rw [dJ] at this;omega
  have H:U/V*Vh≤Uh:=by
   rw [hUh,Nat.le_div_iff_mul_le hM]
   have f:Vh*M≤V:=by rw [hVh];exact Nat.div_mul_le_self _ _
   have E:=gT (U/V) f
   have G:=Nat.div_mul_le_self U V
   rw [←cU] at E
   omega
  have F:U/V*Vh<(d+1)*Vh:=by omega
  have:=Nat.lt_of_mul_lt_mul_right F;omega
 refine rA (fun o=>?_)
 have H:d*Vh*M≤U:=by
  have:=fC M h1
  have f:Uh*M≤U:=by rw [hUh];exact Nat.div_mul_le_self _ _
  omega
 have f:V<(Vh+1)*M:=by rw [hVh,dH];exact sP V hM
 have E:U<(U/V+1)*V:=by rw [dH];exact sP U L
 have G:(U/V+1)*V≤(d-1)*V:=fC V i9;have F:(d-1)*V≤(d-1)*((Vh+1)*M):=gT _ (Nat.le_of_lt f)
 have I:d*Vh*M<(d-1)*(Vh+1)*M:=by
  rw [cU (d-1)]
  exact lS H (dA E (a8 G F))
 have W:=Nat.lt_of_mul_lt_mul_right I;have X:0<d:=lS (bX _) o;clear o H f E G F I;obtain⟨d,rfl⟩:∃e,d=e+1:=⟨d-1,by omega⟩;rw [oF,pB,dE,eH] at W;omega
theorem ZQ {L1:Nat}(hD:0<D)(hd1:L/D≤d)(hd2:d≤L/D+1)(_hK:L<K)(hL1:L1<K)(h:L1+d*D=L+K*c)(hc:c≤1):(c=0→d=L/D∧L1=L%D)∧(c=1→d=L/D+1∧∀L2 c2,c2≤1→L2<K→L2+K*c2=L1+D→L2=L%D):=by
 have G:=pD L D;have H:=g7 L hD;generalize L/D=q at*;generalize L%D=r at*;have f:d=q∨d=q+1:=by omega
 have o:d*D=D*q∨d*D=D*q+D∧d=q+1:=by
  rcases f with rfl | rfl
  ·left;exact dH _ _
  ·right;exact⟨by rw [pB,dH],rfl⟩
 have F:d*D=D*q+D∨d*D=D*q∧d=q:=by
  rcases f with rfl | rfl
  ·right;exact⟨dH _ _,rfl⟩
  ·left;rw [pB,dH]
 generalize d*D=a at*;generalize D*q=b at*;constructor
 ·rintro rfl;rw [iV,fN] at h;rcases F with F | ⟨F,E⟩
  ·omega
  exact⟨E,by omega⟩
 rintro rfl;rw [eH] at h;rcases o with o | ⟨o,E⟩
 ·omega
 refine⟨E,fun L2 c2 _ _ h2=>?_⟩;rcases (show c2=0∨c2=1 by omega) with rfl | rfl <;> omega
structure Lg (V U0 k:Nat)(l ql:List Nat):Prop where
 eq:U0=WB^k*nv (ql.drop k)*V+nv l
 lt:nv l<V*WB^k
theorem Lg.step (h:Lg V U0 (j+1) l ql)(hj:j<ql.length)(hV:0<V)(hq:q=nv l/(WB^j*V))(hl2:nv l2=nv l%(WB^j*V)):Lg V U0 j l2 (ql.set j q):=by
 have E:0<WB^j*V:=jZ (iI iM) hV
 have o:(ql.set j q).drop j=q::ql.drop (j+1):=by
  rw [pF (by rw [List.length_set];exact hj)]
  congr 1
  ·simp
  ·rw [List.drop_set_of_lt i9]
 refine⟨?_,?_⟩
 ·have f:=pD (nv l) (WB^j*V);rw [←hq,←hl2] at f;rw [h.eq,o,rQ,dE,eE,dS,cU (WB^j) WB,←f];have F:WB^j*q*V=WB^j*V*q:=uH _ _ _;omega
 rw [hl2,dH V];exact g7 _ E
theorem TI (hn:2≤n)(hl:j+n+1≤l.length)(hw:Wf l)(hlt:nv l<WB^(j+n+1)):nv l/WB^(j+n-2)=(l.getD (j+n) 0*WB+l.getD (j+n-1) 0)*WB+l.getD (j+n-2) 0:=by
 obtain⟨m,rfl⟩:∃m,n=m+2:=⟨n-2,by omega⟩;have E:=qL l (j+(m+2)+1) hl
 have f:nv l=nv (l.take (j+(m+2)+1)):=by
  rcases lT (nv (l.drop (j+(m+2)+1))) with h | h
  ·rw [h,iV,fN] at E;exact E
  ·have:=Nat.le_mul_of_pos_right (WB^(j+(m+2)+1)) h
   omega
 have I:=gA l (j+(m+2)) i9;have o:=gA l (j+m+1) i9;have G:=gA l (j+m) i9;rw [show j+m+1+1=j+(m+2) from by omega] at o;rw [show j+(m+2)-2=j+m from by omega,show j+(m+2)-1=j+m+1 from by omega,f,I,o,G];have F:=nX hw (j+m);rw [show WB^(j+(m+2))=WB^(j+m)*(WB*WB) from by rw [show j+(m+2)=j+m+1+1 from by omega,dS,dS,cU],show WB^(j+m+1)=WB^(j+m)*WB from dS _ _];generalize l.getD (j+(m+2)) 0=u2;generalize l.getD (j+m+1) 0=u1;generalize l.getD (j+m) 0=u0
 have H:nv (l.take (j+m))+WB^(j+m)*u0+WB^(j+m)*WB*u1+WB^(j+m)*(WB*WB)*u2=WB^(j+m)*((u2*WB+u1)*WB+u0)+nv (l.take (j+m)):=by
  have M:WB^(j+m)*WB*u1=WB^(j+m)*(u1*WB):=by rw [cU,dH WB u1]
  have L:WB^(j+m)*(WB*WB)*u2=WB^(j+m)*(u2*WB*WB):=by rw [cU,dH (WB*WB),←cU u2]
  rw [M,L,eE,dE,dE]
  omega
 rw [H,r9 (iI iM),jL F,fN]
theorem TH (hn:2≤n)(hl:l.length=n)(hw:Wf l):nv l/WB^(n-2)=l.getD (n-1) 0*WB+l.getD (n-2) 0:=by
 obtain⟨m,rfl⟩:∃m,n=m+2:=⟨n-2,by omega⟩;have F:nv l=nv (l.take (m+1+1)):=by rw [List.take_of_length_le i9]
 have o:=gA l (m+1) i9;have E:=gA l m i9;have f:=nX hw m;rw [show m+2-2=m from rfl,show m+2-1=m+1 from rfl,F,o,E,dS];generalize l.getD (m+1) 0=u1;generalize l.getD m 0=u0
 have h:nv (l.take m)+WB^m*u0+WB^m*WB*u1=WB^m*(u1*WB+u0)+nv (l.take m):=by
  rw [cU,dH WB u1,dE];omega
 rw [h,r9 (iI iM),jL f,fN]
theorem ZO {vs:List Nat}(h:Lg V U0 (j+1) l ql)(hn:2≤n)(hl:j+n+1≤l.length)(hw:Wf l)(hvl:vs.length=n)(hvw:Wf vs)(hV:nv vs=V)(hv1:0<vs.getD (n-1) 0):nv l<WB^(j+n+1)∧l.getD (j+n) 0≤vs.getD (n-1) 0∧(d≤18446744073709551615→d*(vs.getD (n-1) 0*WB+vs.getD (n-2) 0)≤(l.getD (j+n) 0*WB+l.getD (j+n-1) 0)*WB+l.getD (j+n-2) 0→
   (d=18446744073709551615∨(l.getD (j+n) 0*WB+l.getD (j+n-1) 0)*WB+l.getD (j+n-2) 0<(d+1)*(vs.getD (n-1) 0*WB+vs.getD (n-2) 0))→nv l/(WB^j*V)≤d∧d≤nv l/(WB^j*V)+1):=by
 have f:V<WB^n:=by rw [←hV,←hvl];exact kH hvw
 have o:nv l<WB^(j+n+1):=by
  have h1:=h.lt
  have h2:V*WB^(j+1)≤WB^n*WB^(j+1):=fC _ (Nat.le_of_lt f)
  rw [←eS,show n+(j+1)=j+n+1 from by omega] at h2
  omega
 have t3:=TI hn hl hw o;have t2:=TH hn hvl hvw;rw [hV] at t2;refine⟨o,?_,?_⟩
 ·have h1:WB^(j+n)*l.getD (j+n) 0≤nv l:=by
   have L:=qL l (j+n+1) hl
   have F:=gA l (j+n) i9
   omega
  have h2:V<WB^(n-1)*(vs.getD (n-1) 0+1):=by
   have F:=gA vs (n-1) i9
   rw [lJ i9,List.take_of_length_le i9,hV] at F
   have U:=nX hvw (n-1)
   rw [F,dE,eH]
   omega
  have H:V*WB^(j+1)<WB^(n-1)*(vs.getD (n-1) 0+1)*WB^(j+1):=uI h2 (iI iM);rw [uH,←eS,show n-1+(j+1)=j+n from by omega] at H;have I:=h.lt;have G:WB^(j+n)*l.getD (j+n) 0<WB^(j+n)*(vs.getD (n-1) 0+1):=by omega
  have:=Nat.lt_of_mul_lt_mul_left G;omega
 intro _ h1 h2;rw [←t3] at h1 h2;rw [←t2] at h1 h2
 have E:V/WB^(n-2)=(WB^j*V)/WB^(j+n-2):=by
  rw [show j+n-2=j+(n-2) from by omega,eS,Nat.mul_div_mul_left _ _ (iI iM)]
 refine a0O (M:=WB^(j+n-2)) (iI iM) J E ?_ (by rw [dJ];omega) h1 h2 ?_
 ·rw [t2];have:=Nat.le_mul_of_pos_left WB hv1;omega
 have:=h.lt;rw [dS,←cU,dH V] at this;exact this
theorem ZP {X s Q:Nat}(hY:0<Y)(h:X*2^s=Q*(Y*2^s)+L)(hL:L<Y*2^s):Q=X/Y∧L/2^s=X%Y:=by
 have f:=oE s;have h1:X*2^s/(Y*2^s)=Q:=by rw [h,dH Q,r9 (jZ hY f),jL hL,fN]
 have h2:X*2^s%(Y*2^s)=L:=by rw [h,dH Q,yW,iW hL]
 rw [H5 _ _ f] at h1;rw [CK] at h2;exact⟨h1.symm,by rw [←h2,Nat.mul_div_cancel _ f]⟩
theorem ZN {s:Nat}(hx:Wf xs)(hy:Wf ys)(hxl:xs.length=N)(hyl:ys.length=n)(hn:1≤n)(hnN:n≤N)(hyk:ys.getD (n-1) 0=y)(hy0:y≠0)(hyb:y≤18446744073709551615)(hs:s+dR y=64):s<64∧nv ys*2^s<WB^n∧nv xs*2^s<WB^(N+1)∧0<nv ys*2^s∧WB^(n-1)≤nv ys*2^s∧nv xs*2^s<nv ys*2^s*WB^(N+1-n):=by
 have hb:dR y≠0:=fun h=>hy0 (pZ.1 h);have f:=oE s;have L:=gA ys (n-1) i9;rw [lJ hn,List.take_of_length_le i9,hyk] at L;have h1:=nX hy (n-1)
 have h2:WB^(n-1)≤nv ys:=by
  have:=Nat.le_mul_of_pos_right (WB^(n-1)) (show 0<y by omega)
  omega
 have M:nv ys≤nv ys*2^s:=Nat.le_mul_of_pos_right _ f;have G:=rR y;have F:=kH hx;rw [hxl] at F;have H:=iI (n:=n-1) iM;refine⟨by omega,?_,?_,by omega,by omega,?_⟩
 ·have o:nv ys<WB^(n-1)*(y+1):=by rw [dE,eH];omega
  have I:WB^(n-1)*(y+1)≤WB^(n-1)*2^dR y:=gT _ G;have E:nv ys*2^s<WB^(n-1)*2^dR y*2^s:=uI i9 f;rw [cU,←eS,Nat.add_comm (dR y),hs,←nJ,←dS,Nat.succ_eq_add_one,lJ hn] at E;exact E
 ·rw [dS];have o:2^s≤WB:=by rw [nJ];exact fZ i9 i9
  have I:=uI F f;have E:=gT (WB^N) o;omega
 have o:WB^N≤nv ys*WB^(N+1-n):=by
  have:=fC (WB^(N+1-n)) h2
  rw [←eS,show n-1+(N+1-n)=N from by omega] at this
  exact this
 rw [uH];exact uI i9 f
theorem a0M (h2:u2≤v1)(h1:u1≤18446744073709551615)(h0:u0≤18446744073709551615)(hv1:v1≤18446744073709551615)(hv0:v0≤18446744073709551615)(hpos:0<v1)(k1:D≤18446744073709551615)(k2:D*(v1*WB+v0)≤(u2*WB+u1)*WB+u0)(k3:D=18446744073709551615∨(u2*WB+u1)*WB+u0<(D+1)*(v1*WB+v0))(w:a6)(n:Nat):aQ aM 173 #[t9 (u2:Int),t9 (u1:Int),t9 (u0:Int),t9 (v1:Int),t9 (v0:Int)] (w.drewN n) (fun e w''=>e= .returned (t9 (D:Int))∧∃m,w''=w.drewN m):=by
 refine Calls.quiet_of ((a2i h2 h1 h0 hv1 hv0 hpos (w.drewN n)).mono ?_);rintro e w' ⟨d,rfl,a,b,c,m,rfl⟩;rw [a0N a b.out c.out k1 k2 k3];exact⟨rfl,m,rfl⟩
theorem ML (hl:K≤l.length)(hl1:K≤l1.length)(hw:Wf l1)(hd:l1.drop K=l.drop K)(h:nv l<WB^K):nv l1<WB^K:=by
 have o:=qL l K hl;have f:=qL l1 K hl1;have E:=nX hw K;rw [hd] at f;rcases lT (nv (l.drop K)) with h0 | h0
 ·rw [h0,iV] at f;omega
 have:=Nat.le_mul_of_pos_right (WB^K) h0;omega
theorem a2h (hx:Rd w A N cap xs)(hN:N≤274877906944)(hy:Rd w B n cap' ys)(hn:2≤n)(hnN:n≤N)(htop:ys.getD (n-1) 0≠0):aQ aM 149 #[up A N cap,up B n cap'] w (RetQRA w (nv xs/nv ys) (nv xs%nv ys)):=by
 obtain⟨b,y,rfl,hyk,hyb,hcy⟩:=hy.get (i:=n-1) i9;have hlx:=Lib.hid hx.len;have hly:=Lib.hid hy.len;have hyp:(0:Int)<(n:Int):=by omega
 go_enter Tryz.func149,Tryz.ntmps149
 go_wp2_with fail
 refine (bits_LeadingZeros64 y hyb _).mono ?_;rintro e w' ⟨s,hs,hs64',rfl,rfl⟩;have hstart:=ZN hx.wf hy.wf hlx.out hly.out i9 hnN hyk.out (by rw [←hyk.out];exact htop) hyb hs.out;obtain⟨hs64,hVfit,hUfit,hVpos,hVlow,hUV⟩:=hstart;have HVfit:=Lib.hid hVfit;have HUfit:=Lib.hid hUfit;have HVpos:=Lib.hid hVpos;have HVlow:=Lib.hid hVlow;have HUV:=Lib.hid hUV;clear hVfit hUfit hVpos hVlow hUV htop
 go_wp2_with fail
 refine (PC hy i9 hs64 i9 (aU _) HVfit.out).mono ?_;rintro e w1 ⟨gv,vs,rfl,hgv,hbv,hwv,hlv,hvv,hx1⟩
 go_wp2_with fail
 refine (PC (n:=N+1) (hx.ext hx1) i9 hs64 i9 i9 HUfit.out).mono ?_;rintro e w2 ⟨gu,us,rfl,hgu,hbu,hwu,hlu,hvu,hx2⟩;obtain⟨M,hM1,hM2⟩:∃M,M+n≤N+1∧N+1≤M+n:=⟨N+1-n,by omega,by omega⟩;have hmk:=mB (P:=aM) Tryz.underlying22 j9 J yd ((N:Int)-(n:Int)+1) i9 i9;have et:((N:Int)-(n:Int)+1).toNat=M:=by omega
 rw [et] at hmk;clear et
 go_wp2_with fail
 clear hmk;have hbv2:=hbv.ext hx2;have hguv:gv<gu:=dA hbv.lt hgu;obtain⟨gq,hgq⟩:∃gq,w2.heap.size=gq:=⟨_,rfl⟩;rw [hgq];have hguq:gu<gq:=by rw [←hgq];exact hbu.lt
 obtain⟨wa,hwa⟩:∃wa,w2.alloc (.cells (zc (.int .u64 0) M) 43)=wa:=⟨_,rfl⟩;rw [hwa]
 have hbq:Bk wa gq 43 ((dF M 0).map bF):=by
  rw [←hwa,←hgq,←kG];exact Bk.new' _ _ _
 have hea:Ext w2 wa:=by rw [←hwa];exact (Ext.refl w2).alloc _
 have hgw:w.heap.size≤gv:=hgv;have hgw2:w.heap.size≤gu:=by omega
 have hgw3:w.heap.size≤gq:=by omega
 have hbva:=hbv2.ext hea;have hbua:=hbu.ext hea;have hexa:Ext w wa:=(hx1.trans hx2).trans hea;clear hgq hwa hbv hbu hbv2 hea hcy
 have hL0:Hid (Lg (nv ys*2^s) (nv xs*2^s) M us (dF M 0)):=by
  refine⟨?_,?_⟩
  ·rw [List.drop_of_length_le (by rw [List.length_replicate];exact aU _),hvu.out];simp [nv]
  ·rw [hvu.out,show M=N+1-n from by omega];exact HUV.out
 have hv1:Hid (0<vs.getD (n-1) 0):=by
  refine Nat.pos_of_ne_zero (fun h0=>?_)
  have e1:=tG vs (n-1) (by rw [hlv.out];omega) h0
  rw [lJ i9,List.take_of_length_le (by rw [hlv.out];exact aU _),hvv.out] at e1
  have e2:=nX hwv (n-1)
  have:=HVlow.out
  omega
 go_loopw [11] (fun u wr=>∃(k:Nat) (l ql:List Nat),k≤M∧u= no ((k:Int)-1)∧Hid (l.length=N+1)∧Wf l∧Hid (ql.length=M)∧Wf ql∧Bk wr gv 43 (vs.map bF)∧Bk wr gu 43 (l.map bF)∧Bk wr gq 43 (ql.map bF)∧
  Hid (Lg (nv ys*2^s) (nv xs*2^s) k l ql)∧Ext w wr) (fun u wr=>(intOf u+1).toNat)
 case atStart=>exact⟨M,us,_,aU _,gW,hlu,hwu,List.length_replicate,oZ _,hbva,hbua,hbq,hL0,hexa⟩
 case round=>
  obtain⟨k,l,ql,hk,rfl,hll,hwl,hlq,hwq,hbv,hbu,hbq',hL,hr⟩:=hrel
  clear hbva hbua hbq hexa hL0 hlu hvu
  by_cases hk0:0<k
  ·obtain⟨j,rfl⟩:∃j,k=j+1:=⟨k-1,by omega⟩
   have ek:((j+1:Nat):Int)-1=(j:Int):=by omega
   rw [ek]
   obtain⟨u2,hu2k,hu2b,hcu2⟩:=hbu.word hwl (i:=j+n) (by rw [hll.out];omega)
   obtain⟨u1,hu1k,hu1b,hcu1⟩:=hbu.word hwl (i:=j+n-1) (by rw [hll.out];omega)
   obtain⟨u0,hu0k,hu0b,hcu0⟩:=hbu.word hwl (i:=j+n-2) (by rw [hll.out];omega)
   obtain⟨v1,hv1k,hv1b,hcv1⟩:=hbv.word hwv (i:=n-1) (by rw [hlv.out];omega)
   obtain⟨v0,hv0k,hv0b,hcv0⟩:=hbv.word hwv (i:=n-2) (by rw [hlv.out];omega)
   have hgs:=fun d=>ZO (d:=d) hL.out hn (by rw [hll.out];omega) hwl hlv.out hwv hvv.out hv1.out
   rw [hu2k.out,hu1k.out,hu0k.out,hv1k.out,hv0k.out] at hgs
   have hu2v:u2≤v1:=(hgs 0).2.1
   have hv1p:0<v1:=by rw [←hv1k.out];exact hv1.out
   have HGS:=Lib.hid hgs
   clear hgs
   have hfin:∀(q:Nat) (l2:List Nat) (wr2:a6),q=nv l/(WB^j*(nv ys*2^s))→nv l2=nv l%(WB^j*(nv ys*2^s))→q≤18446744073709551615→l2.length=N+1→Wf l2→Bk wr2 gv 43 (vs.map bF)→Bk wr2 gu 43 (l2.map bF)→Bk wr2 gq 43 ((ql.set j q).map bF)→Ext w wr2→
     ∃(k:Nat) (l ql:List Nat),k≤M∧eL .i64 ((j:Int)-1)= no ((k:Int)-1)∧Hid (l.length=N+1)∧Wf l∧Hid (ql.length=M)∧Wf ql∧Bk wr2 gv 43 (vs.map bF)∧Bk wr2 gu 43 (l.map bF)∧Bk wr2 gq 43 (ql.map bF)∧
      Hid (Lg (nv ys*2^s) (nv xs*2^s) k l ql)∧Ext w wr2:=by
    intro q l2 wr2 h1 h2 h3 h4 h5 h6 h7 h8 h9
    exact⟨j,l2,ql.set j q,by omega,rfl,h4,h5,(show _=_ by rw [List.length_set];exact hlq.out),j0 hwq j (by rw [dJ];omega),h6,h7,h8,hL.out.step (by rw [hlq.out];omega) HVpos.out h1 h2,h9⟩
   have FIN:=Lib.hid hfin
   clear hfin
   go_upto_region 9 with (fail)
   obtain⟨d,hdb,hd1,hd2⟩:=a0P ((u2*WB+u1)*WB+u0) (v1*WB+v0) (by rw [dJ];omega)
   have hdd:=Lib.hid ((HGS.out d).2.2 hdb hd1 hd2)
   have HLT:=Lib.hid (HGS.out d).1
   have HD1:=Lib.hid hd1
   have HD2:=Lib.hid hd2
   clear hd1 hd2 HGS
   have w1e:IntKind.i64.wrap ((j:Int)+(n:Int))=(j:Int)+(n:Int):=IntWalk.i64_in _ i9
   have w2e:IntKind.i64.wrap ((j:Int)+(n:Int)-1)=(j:Int)+(n:Int)-1:=IntWalk.i64_in _ i9
   have w3e:IntKind.i64.wrap ((j:Int)+(n:Int)-2)=(j:Int)+(n:Int)-2:=IntWalk.i64_in _ i9
   have w4e:IntKind.i64.wrap ((n:Int)-1)=(n:Int)-1:=IntWalk.i64_in _ i9
   have w5e:IntKind.i64.wrap ((n:Int)-2)=(n:Int)-2:=IntWalk.i64_in _ i9
   have t1:((j:Int)+(n:Int)).toNat=j+n:=by omega
   have t2:((j:Int)+(n:Int)-1).toNat=j+n-1:=by omega
   have t3:((j:Int)+(n:Int)-2).toNat=j+n-2:=by omega
   have t4:((n:Int)-1).toNat=n-1:=by omega
   have t5:((n:Int)-2).toNat=n-2:=by omega
   have b1:0≤(j:Int)+(n:Int):=by omega
   have b2:0≤(j:Int)+(n:Int)-1:=by omega
   have b3:0≤(j:Int)+(n:Int)-2:=by omega
   have b4:0≤(n:Int)-1:=by omega
   have b5:0≤(n:Int)-2:=by omega
   have c1:(j:Int)+(n:Int)<(N:Int)+1:=by omega
   have c2:(j:Int)+(n:Int)-1<(N:Int)+1:=by omega
   have c3:(j:Int)+(n:Int)-2<(N:Int)+1:=by omega
   have c4:(n:Int)-1<(n:Int):=by omega
   have c5:(n:Int)-2<(n:Int):=by omega
   go_quiet (exact a0M hu2v hu1b hu0b hv1b hv0b hv1p hdb HD1.out HD2.out _ _)
   clear w1e w2e w3e w4e w5e t1 t2 t3 t4 t5 b1 b2 b3 b4 b5 c1 c2 c3 c4 c5
   obtain⟨wd,hwd⟩:∃wd,wr.drewN nq=wd:=⟨_,rfl⟩
   rw [hwd]
   have hbu1:Bk wd gu 43 (l.map bF):=by rw [←hwd];exact hbu.drewN nq
   have hbv1:Bk wd gv 43 (vs.map bF):=by rw [←hwd];exact hbv.drewN nq
   have hbq1:Bk wd gq 43 (ql.map bF):=by rw [←hwd];exact hbq'.drewN nq
   have hr1:Ext w wd:=by rw [←hwd];exact hr.drewN nq
   clear hwd hcu2 hcu1 hcu0 hcv1 hcv0
   have hvrd:=hbv1.rd hwv (o:=0) (n:=n) (cap:=n) (aU _) (by rw [hlv.out];omega) (by rw [eV];omega)
   rw [iN,List.take_of_length_le (by rw [hlv.out];exact aU _)] at hvrd
   go_wp2_with fail
   rw [show j+n+1-j=n+1 from by omega]
   refine (a2d (o:=j) (m:=n) hbu1 hwl hvrd (fun a ha=>by cases ha;show gv≠gu;omega) (by rw [hll.out];omega) i9 i9 hdb).mono ?_
   rintro e w4 ⟨bb,rfl,l1,c,hb4,hw4,hll4,hdr4,hc4,hP4,hu4⟩
   have hll4':Hid (l1.length=N+1):=(show _=_ by rw [hll4.out,hll.out])
   have hL1:Hid (nv l1<WB^(j+n+1)):=ML (by rw [hll.out];omega) (by rw [hll4'.out];omega) hw4 hdr4.out HLT.out
   have hcase:=ZQ (D:=WB^j*(nv ys*2^s)) (jZ (iI iM) HVpos.out) hdd.out.1 hdd.out.2 HLT.out hL1.out (by
    have h:=hP4.out.2
    rw [hvv.out,Nat.mul_left_comm] at h
    exact h) hc4
   have hbc:=hP4.out.1
   have hbv4:=hbv1.upd hu4 i9
   have hbq4:=hbq1.upd hu4 i9
   have hr4:=hu4.ext hr1 hgw2
   have hbb:bb=false∧c=0∨bb=true∧c=1:=by
    rcases bb with _ | _
    ·left;refine⟨rfl,?_⟩;simp at hbc;omega
    ·right;exact⟨rfl,hbc.1 rfl⟩
   clear hP4 hbc hc4 hbv hbu hbq' hbu1 hbv1 hbq1 hr hr1 hvrd
   rcases hbb with⟨rfl,hc⟩ | ⟨rfl,hc⟩
   ·have h0:=Lib.hid (hcase.1 hc)
    clear hcase hc
    obtain⟨z,hz,_,hcz⟩:=hbq4.word hwq (i:=j) (by rw [hlq.out];omega)
    have hfz:=hbq4.frozen j
    have hjM:(j:Int)<(M:Int):=by omega
    go_wp2_with fail
    go_roundw
    case rel=>exact FIN.out d l1 _ h0.out.1 h0.out.2 hdb hll4'.out hw4 (hbv4.far (by show gv≠gq;omega) _) (hb4.far (by show gu≠gq;omega) _) (by rw [←eM];exact hbq4.set _ _) (hr4.setCell hgw3 _)
    case measure=>simp [intOf]
   ·have h0:=Lib.hid (hcase.2 hc)
    clear hcase hc
    obtain⟨q,rfl⟩:∃q,d=q+1:=⟨_,h0.out.1⟩
    have hq:Hid (q=nv l/(WB^j*(nv ys*2^s))):=(show _=_ from Nat.succ.inj h0.out.1)
    have hvrd:=hbv4.rd hwv (o:=0) (n:=n) (cap:=n) (aU _) (by rw [hlv.out];omega) (by rw [eV];omega)
    rw [iN,List.take_of_length_le (by rw [hlv.out];exact aU _)] at hvrd
    go_wp2_with fail
    rw [show j+n+1-j=n+1 from by omega]
    refine (a2j (o:=j) (m:=n) hb4 hw4 hvrd (fun a ha=>by cases ha;show gv≠gu;omega) (by rw [hll4'.out];omega) i9 i9).mono ?_
    rintro e w5 ⟨rfl,l2,c2,hb5,hw5,hll5,hdr5,hc5,hP5,hu5⟩
    have hll5':Hid (l2.length=N+1):=(show _=_ by rw [hll5.out,hll4'.out])
    have hL2:Hid (nv l2<WB^(j+n+1)):=ML (by rw [hll4'.out];omega) (by rw [hll5'.out];omega) hw5 hdr5.out hL1.out
    have hfin2:Hid (nv l2=nv l%(WB^j*(nv ys*2^s))):=h0.out.2 (nv l2) c2 hc5 hL2.out (by have h:=hP5.out;rw [hvv.out] at h;exact h)
    have hbv5:=hbv4.upd hu5 i9
    have hbq5:=hbq4.upd hu5 i9
    have hr5:=hu5.ext hr4 hgw2
    clear hP5 hc5 hbv4 hbq4 hr4 hb4 hvrd h0
    obtain⟨z,hz,_,hcz⟩:=hbq5.word hwq (i:=j) (by rw [hlq.out];omega)
    have hfz:=hbq5.frozen j
    have hjM:(j:Int)<(M:Int):=by omega
    go_wp2_with fail
    go_roundw
    case rel=>exact FIN.out q l2 _ hq.out hfin2.out i9 hll5'.out hw5 (hbv5.far (by show gv≠gq;omega) _) (hb5.far (by show gu≠gq;omega) _) (by rw [←eM];exact hbq5.set _ _) (hr5.setCell hgw3 _)
    case measure=>simp [intOf]
  ·obtain rfl:k=0:=by omega
   have ek:((0:Nat):Int)-1= -1:=rfl
   rw [ek]
   have hLv:Hid (nv l<nv ys*2^s):=by
    have:=hL.out.lt
    rw [Nat.pow_zero,eH] at this
    exact this
   have hQ:=ZP (X:=nv xs) (Y:=nv ys) (s:=s) (Q:=nv ql) (L:=nv l) (Nat.pos_of_mul_pos_right HVpos.out) (by have:=hL.out.eq;simpa using this) hLv.out
   have hln:Hid (nv (l.take n)=nv l):=by
    show _=_
    have e1:=qL l n (by rw [hll.out];omega)
    rcases lT (nv (l.drop n)) with h0 | h0
    ·rw [h0,iV,fN] at e1;exact e1.symm
    ·have:=Nat.le_mul_of_pos_right (WB^n) h0
     have h2:=hLv.out
     have h3:=HVfit.out
     omega
   have HQ:=Lib.hid hQ
   clear hQ
   have hurd:=hbu.rd hwl (o:=0) (n:=n) (cap:=N+1) i9 (by rw [hll.out];omega) (by rw [eV];omega)
   rw [iN] at hurd
   go_wp2_with fail
   refine (Z3 hurd i9 i9).mono ?_
   rintro e w6 ⟨A6,n6,c6,rfl,hn6,hr6,ho6,hx6⟩
   rw [hln.out,HQ.out.2] at hn6 hr6 ho6
   have hqrd:=(hbq'.ext hx6).rd hwq (o:=0) (n:=M) (cap:=M) (aU _) (by rw [hlq.out];omega) (by rw [eV];omega)
   rw [iN,List.take_of_length_le (by rw [hlq.out];exact aU _)] at hqrd
   go_wp2_with fail
   refine (kY hqrd).mono ?_
   rintro e w7 ⟨A7,n7,c7,rfl,hn7,hr7,ho7,hx7⟩
   rw [HQ.out.1] at hn7 hr7 ho7
   go_wp2_with fail
   go_ret2
   exact⟨A7,n7,c7,A6,n6,c6,rfl,hn7,hr7,ho7.mono (hr.trans hx6).size,hn6,hr6.ext hx7,(ho6.mono hr.size).ext hx7,(hr.trans hx6).trans hx7,fun p p' hp hp'=>by have h1:=ho7.block p hp;have h2:=ho6.block p' hp';omega⟩
def QQ (w:a6)(q r:Nat)(er:Int)(e:eF)(w':a6):Prop:=
 ∃A n cap B m cap',e= .returned (.tuple #[up A n cap,up B m cap',no er])∧Hid (n=(wd q).length)∧Rd w' A n cap (wd q)∧Own w' w.heap.size 43 1 A n cap ((wd q).map bF)∧
  Hid (m=(wd r).length)∧Rd w' B m cap' (wd r)∧Own w' w.heap.size 43 1 B m cap' ((wd r).map bF)∧Ext w w'
def RetQREA (w:a6)(q r:Nat)(er:Int)(e:eF)(w':a6):Prop:=
 ∃A n cap B m cap',e= .returned (.tuple #[up A n cap,up B m cap',no er])∧Hid (n=(wd q).length)∧Rd w' A n cap (wd q)∧Own w' w.heap.size 43 1 A n cap ((wd q).map bF)∧
  Hid (m=(wd r).length)∧Rd w' B m cap' (wd r)∧Own w' w.heap.size 43 1 B m cap' ((wd r).map bF)∧Ext w w'∧∀p p',A=some p→B=some p'→p.block≠p'.block
theorem RetQREA.old {e:eF}(h:RetQREA w q r er e w'):QQ w q r er e w':=by
 obtain⟨A,n,cap,B,m,cap',h1,h2,E,f,o,F,G,H,_⟩:=h;exact⟨A,n,cap,B,m,cap',h1,h2,E,f,o,F,G,H⟩
theorem SO (h:m≠0):(wd m).getD ((wd m).length-1) 0≠0:=by
 intro h0;have hl:0<(wd m).length:=Nat.pos_of_ne_zero (fun e=>h (oA.1 e));have f:=tG (wd m) ((wd m).length-1) i9 h0;rw [lJ i9,List.take_of_length_le (aU _),dZ] at f;have h2:=nX (qX m) ((wd m).length-1);have o:=LG h;omega
theorem D8 {v:Nat}(h:1=(wd m).length)(hv:(wd m).getD 0 0=v):m=v:=by
 have f:=gA (wd m) 0 i9;rw [List.take_of_length_le i9,dZ,hv] at f;simpa [nv] using f
theorem a2o (hy:Rd w B n' cap' ys)(hl':n'≤1099511627775)(h0:nv ys=0):aQ aM 115 #[up A n cap,up B n' cap'] w (fun e w'=>e= .returned (.tuple #[up none 0 0,up none 0 0,no 4])∧Ext w w'):=by
 go_enter Tryz.func115,Tryz.ntmps115
 go_wp2_with fail
 refine (kY hy).mono ?_;rintro e w1 ⟨A1,n1,c1,rfl,hn1,hr1,ho1,hx1⟩;obtain rfl:n1=0:=by rw [hn1.out,h0];rfl
 go_wp2_with fail
 go_ret3
 exact⟨rfl,hx1⟩
theorem PD (hx:Rd w A n cap xs)(hl:n≤274877906944)(hy:Rd w B n' cap' ys)(hl':n'≤274877906944)(h0:nv ys≠0):aQ aM 115 #[up A n cap,up B n' cap'] w (RetQREA w (nv xs/nv ys) (nv xs%nv ys) 0):=by
 go_enter Tryz.func115,Tryz.ntmps115
 go_wp2_with fail
 refine (kY hy).mono ?_;rintro e w1 ⟨A1,n1,c1,rfl,hn1,hr1,ho1,hx1⟩
 have hn1p:0<n1:=by
  rw [hn1.out];exact Nat.pos_of_ne_zero (fun e=>h0 (oA.1 e))
 have hn1b:n1≤n':=by
  have:=iT hy.wf
  rw [hn1.out,←hy.len];exact this
 have b0:((n1:Int)==0)=false:=by simp;omega
 by_cases h1:n1=1
 ·subst h1;obtain⟨a,v,rfl,hvk,hvb,hcv⟩:=hr1.get (i:=0) i9;have hv:Hid (nv ys=v):=D8 hn1.out hvk.out;have hcv0:w1.cell? a=some (t9 (v:Int)):=by simpa [pI] using hcv
  go_wp2_with fail
  refine (FV (hx.ext hx1) i9 (v:=v) (by rw [←hv.out];exact h0) hvb).mono ?_;rintro e w2 ⟨A2,n2,c2,r,rfl,hr,hrb,hn2,hr2,ho2,hx2⟩
  go_wp2_with fail
  have hone:=Rd.one w2 hrb;refine (kY hone).mono ?_;rintro e w3 ⟨A3,n3,c3,rfl,hn3,hr3,ho3,hx3⟩;rw [xM,hr.out,←hv.out] at hn3 hr3 ho3;rw [←hv.out] at hn2 hr2 ho2;have hal:Ext w2 w3:=((Ext.refl w2).alloc _).trans hx3
  go_wp2_with fail
  go_ret3
  exact⟨A2,n2,c2,A3,n3,c3,rfl,hn2,hr2.ext hal,(ho2.mono hx1.size).ext hal,hn3,hr3,ho3.mono (a8 (hx1.trans hx2).size ym),(hx1.trans hx2).trans hal,fun p p' hp hp'=>by have h1:=ho2.block p hp;have h2:=ho3.block p' hp';simp only [World.alloc,Array.size_push] at h2;omega⟩
 have b1:((n1:Int)==1)=false:=by simp;omega
 go_wp2_with fail
 refine (kY (hx.ext hx1)).mono ?_;rintro e w2 ⟨A2,n2,c2,rfl,hn2,hr2,ho2,hx2⟩
 have hn2b:n2≤n:=by
  have:=iT hx.wf
  rw [hn2.out,←hx.len];exact this
 go_wp2_with fail
 refine (vF hr2 (hr1.ext hx2)).mono ?_;rintro e w3 ⟨c,hc,hcl,hch,rfl,hx3⟩;rw [dZ,dZ] at hc;by_cases hlt:nv xs<nv ys
 ·have hneg:c<0:=by rw [hc.out];exact nH.2 hlt
  go_wp2_with fail
  go_ret3
  rw [jL hlt,iW hlt];exact⟨none,0,0,A2,n2,c2,rfl,rfl,Rd.nil _,Own.nil _ _ _ _,hn2,hr2.ext hx3,(ho2.mono hx1.size).ext hx3,(hx1.trans hx2).trans hx3,fun p p' hp=>by cases hp⟩
 have hneg:¬c<0:=by rw [hc.out,nH];exact hlt
 have HL:=Lib.hid hlt;have hn12:n1≤n2:=by rw [hn1.out,hn2.out];exact iP i9
 clear hlt
 go_wp2_with fail
 refine (a2h (hr2.ext hx3) i9 ((hr1.ext hx2).ext hx3) i9 hn12 (by rw [hn1.out];exact SO h0)).mono ?_;rintro e w4 ⟨A4,n4,c4,A5,n5,c5,rfl,hn4,hr4,ho4,hn5,hr5,ho5,hx4,hap⟩;rw [dZ,dZ] at hn4 hr4 ho4 hn5 hr5 ho5
 go_wp2_with fail
 go_ret3
 have hs:=((hx1.trans hx2).trans hx3);exact⟨A4,n4,c4,A5,n5,c5,rfl,hn4,hr4,ho4.mono hs.size,hn5,hr5,ho5.mono hs.size,hs.trans hx4,hap⟩
theorem yD (hx:Rd w A n cap xs)(hl:n≤274877906944)(hy:Rd w B n' cap' ys)(hl':n'≤274877906944)(h0:nv ys≠0):aQ aM 115 #[up A n cap,up B n' cap'] w (QQ w (nv xs/nv ys) (nv xs%nv ys) 0):=(PD hx hl hy hl' h0).mono fun e w' h=>h.old
theorem a2n (hx:Rd w A n cap xs)(hl:n≤274877906944)(hy:Rd w B n' cap' ys)(hl':n'≤274877906944)(h0:nv ys≠0)(h1:nv xs%nv ys=0):aQ aM 92 #[up A n cap,up B n' cap'] w (yN w (nv xs/nv ys) 0):=by
 go_enter Tryz.func92,Tryz.ntmps92
 have H1:=Lib.hid h1;clear h1
 go_wp2_with fail
 refine (yD hx hl hy hl' h0).mono ?_;rintro e w1 ⟨A4,n4,c4,A5,n5,c5,rfl,hn4,hr4,ho4,hn5,hr5,ho5,hx4⟩;obtain rfl:n5=0:=by rw [hn5.out,H1.out];rfl
 go_wp2_with fail
 go_ret2
 exact⟨A4,n4,c4,rfl,hn4,hr4,ho4,hx4⟩
def I7:Option aF→Nat
 | some (.int _ z)=>z.toNat
 | _=>0
def numAt (w:a6):aF→Nat
 | .slice (some a) n _=>nv ((eI n).map fun i=>I7 (w.cell? (a.add i)))
 | _=>0
theorem Rd.numAt (h:Rd w A n cap xs):Go.Proofs.YtkkabncicmhjfaaGreatDoor.numAt w (up A n cap)=nv xs:=by
 have f:=h.len;cases A with
 | none=>
  have hn:n=0:=by
   rcases lT n with h0 | h0
   ·exact h0
   ·obtain⟨a,o,_⟩:=h.rv.get 0 i9
    cases o
  have:xs= []:=uL i9
  subst this
  rfl
 | some a=>
  show nv _=_
  congr 1
  apply List.ext_getElem
  ·simp [f]
  ·intro i h1 h2
   obtain⟨a',x,o,hx,_,hc⟩:=h.get (i:=i) i9
   cases o
   have e:xs[i]=x:=by
    have:=hx.out
    simpa [bL,cT h2] using this
   simp [hc,I7,e]
theorem O7 (a b:Nat):Nat.gcd a b=Nat.gcd b (a%b):=by
 rw [Nat.gcd_comm a b,Nat.gcd_rec b a,Nat.gcd_comm]
def a32 (w:a6)(x:Nat)(e:eF)(w':a6):Prop:=
 ∃g,e= .returned (up (some ⟨g,0,none⟩) 1 1)∧w.heap.size≤g∧Bk w' g 43 ([x].map bF)∧x≤18446744073709551615∧Ext w w'
theorem a2c (hx:x≤18446744073709551615)(hy:y≤18446744073709551615)(w:a6):aQ aM 121 #[t9 (x:Int),t9 (y:Int)] w (a32 w (Nat.gcd x y)):=by
 go_enter Tryz.func121,Tryz.ntmps121
 go_wp2_with fail
 go_loopw [0,1] (fun u v wr=>∃a b:Nat,u= t9 (a:Int)∧v= t9 (b:Int)∧a≤18446744073709551615∧b≤18446744073709551615∧Hid (Nat.gcd a b=Nat.gcd x y)∧Ext w wr) (fun u v wr=>(intOf v).toNat)
 case atStart=>exact⟨x,y,rfl,rfl,hx,hy,rfl,Ext.refl w⟩
 case round=>
  obtain⟨a,b,rfl,rfl,ha,hb,hg,hr⟩:=hrel
  by_cases h0:b=0
  ·subst h0
   have b0:((0:Int) != 0)=false:=rfl
   go_wp2_with fail
   go_ret
   have e:Nat.gcd x y=a:=by rw [←hg.out,Nat.gcd_zero_right]
   rw [e]
   exact⟨wr.heap.size,rfl,hr.size,Bk.new wr 43 [t9 (a:Int)],ha,hr.alloc _⟩
  ·have b0:((b:Int) != 0)=true:=by simp;omega
   have b1:((b:Int)==0)=false:=by simp;omega
   have h2:¬(b:Int)≤0:=by omega
   have h5:=kS (a:Int) (b:=(b:Int)) i9
   have h6:=lU (a:Int) (b:=(b:Int)) i9
   have HM:=Lib.hid (g7 a (show 0<b by omega))
   go_wp2_with fail
   go_quiet (fail)
   go_wp2_with fail
   go_roundw
   case rel=>exact⟨b,a%b,rfl,gW (h:=ym),hb,by have:=HM.out;omega,(show _=_ by rw [←hg.out,←O7]),hr.drewN _⟩
   case measure=>have:=HM.out;simp [intOf];omega
theorem a2m (hx:Rd w A n cap xs)(hl:n≤274877906944)(hy:Rd w B n' cap' ys)(hl':n'≤274877906944):aQ aM 91 #[up A n cap,up B n' cap'] w (jR w (Nat.gcd (nv xs) (nv ys))):=by
 go_enter Tryz.func91,Tryz.ntmps91
 go_wp2_with fail
 refine (kY hx).mono ?_;rintro e w1 ⟨A1,n1,c1,rfl,hn1,hr1,ho1,hx1⟩;have hn1b:n1≤274877906944:=by rw [hn1.out];exact a8 (by have:=iT hx.wf;rw [hx.len] at this;exact this) hl
 go_wp2_with fail
 refine (kY (hy.ext hx1)).mono ?_;rintro e w2 ⟨A2,n2,c2,rfl,hn2,hr2,ho2,hx2⟩;have hn2b:n2≤274877906944:=by rw [hn2.out];exact a8 (by have:=iT hy.wf;rw [hy.len] at this;exact this) hl'
 go_wp2_with fail
 go_loopw [5,6] (fun u v wr=>∃(A B:Option a7) (n cap m cap' a b:Nat),u= up A n cap∧v= up B m cap'∧n≤274877906944∧m≤274877906944∧Hid (n=(wd a).length)∧Hid (m=(wd b).length)∧Rd wr A n cap (wd a)∧Own wr w.heap.size 43 1 A n cap ((wd a).map bF)∧
  Rd wr B m cap' (wd b)∧Own wr w.heap.size 43 1 B m cap' ((wd b).map bF)∧Hid (Nat.gcd a b=Nat.gcd (nv xs) (nv ys))∧Ext w wr) (fun u v wr=>numAt wr v)
 case atStart=>exact⟨A1,A2,n1,c1,n2,c2,nv xs,nv ys,rfl,rfl,hn1b,hn2b,hn1,hn2,hr1.ext hx2,ho1.ext hx2,hr2,ho2.mono hx1.size,rfl,hx1.trans hx2⟩
 case round=>
  obtain⟨A,B,n,cap,m,cap',a,b,rfl,rfl,hnb,hmb,hn,hm,hra,hoa,hrb,iG,hg,hr⟩:=hrel
  clear hr1 hr2 ho1 ho2 hx hy hn1 hn2
  by_cases hm0:0<m
  ·have hb0:b≠0:=fun h=>by rw [hm.out,h] at hm0;simp [pM] at hm0
   have HB:=Lib.hid hb0
   clear hb0
   by_cases hcase:n=1∧m=1
   ·obtain⟨rfl,rfl⟩:=hcase
    obtain⟨p,x,rfl,hxk,hxb,hcx⟩:=hra.get (i:=0) i9
    obtain⟨q,y,rfl,hyk,hyb,hcy⟩:=hrb.get (i:=0) i9
    have ea:Hid (a=x):=D8 hn.out hxk.out
    have eb:Hid (b=y):=D8 hm.out hyk.out
    have hcx0:wr.cell? p=some (t9 (x:Int)):=by simpa [pI] using hcx
    have hcy0:wr.cell? q=some (t9 (y:Int)):=by simpa [pI] using hcy
    clear hcx hcy
    go_wp2_with fail
    go_region_with (first
     | (go_at_call 121;refine (a2c hxb hyb _).mono ?_;rintro er w5 ⟨g5,rfl,hg5,hb5,hx5b,hx5⟩))
    all_goals
     go_wp2_with fail
     go_ret
     have h5:Ext w w5:=hr.trans (Ext.trans yn hx5)
     have hgs:wr.heap.size≤g5:=hg5
     have hne:Nat.gcd x y≠0:=by
      have:=Nat.gcd_pos_of_pos_right x (n:=y) (Nat.pos_of_ne_zero (by rw [←eb.out];exact HB.out))
      omega
     have e6:Nat.gcd (nv xs) (nv ys)=Nat.gcd x y:=by rw [←hg.out,ea.out,eb.out]
     rw [e6]
     exact uD (ys:= [Nat.gcd x y]) (a8 hr.size hgs) hb5 J (aU _) (by rw [eV];omega) (by rw [zJ (by rw [dJ];omega) hne];rfl) h5
   ·have hd:decide ((n:Int)=1)=false∨decide ((m:Int)=1)=false:=by
     by_cases h:n=1
     ·right;simp;omega
     ·left;simp;omega
    have key:∀(Q' R':Option a7) (nq cq nr cr:Nat) (w5:a6),Hid (nr=(wd (a%b)).length)→Rd w5 R' nr cr (wd (a%b))→Own w5 wr.heap.size 43 1 R' nr cr ((wd (a%b)).map bF)→Ext wr w5→
      (∃(A B':Option a7) (n cap m' cap'' a b:Nat),qZ B m cap'= up A n cap∧qZ R' nr cr= up B' m' cap''∧n≤274877906944∧m'≤274877906944∧Hid (n=(wd a).length)∧Hid (m'=(wd b).length)∧Rd w5 A n cap (wd a)∧Own w5 w.heap.size 43 1 A n cap ((wd a).map bF)∧
       Rd w5 B' m' cap'' (wd b)∧Own w5 w.heap.size 43 1 B' m' cap'' ((wd b).map bF)∧Hid (Nat.gcd a b=Nat.gcd (nv xs) (nv ys))∧Ext w w5)∧numAt w5 (up R' nr cr)<numAt wr (up B m cap'):=by
     intro Q' R' nq cq nr cr w5 h1 h2 h3 h4
     have hmod:a%b<b:=g7 a (Nat.pos_of_ne_zero HB.out)
     refine⟨⟨B,R',m,cap',nr,cr,b,a%b,rfl,rfl,hmb,?_,hm,h1,hrb.ext h4,iG.ext h4,h2,h3.mono hr.size,(show _=_ by rw [←hg.out,←O7]),hr.trans h4⟩,?_⟩
     ·rw [h1.out]
      refine a8 (iP (Nat.le_of_lt hmod)) ?_
      rw [←hm.out];exact hmb
     ·rw [h2.numAt,hrb.numAt,dZ,dZ];exact hmod
    have KEY:=Lib.hid key
    clear key
    by_cases hn1':n=1
    ·have hm1:((m:Int)==1)=false:=by
      have:¬m=1:=fun h=>hcase ⟨hn1',h⟩
      simp;omega
     have bn1:((n:Int)==1)=true:=by simp;omega
     clear hcase hd hn1'
     go_wp2_with fail
     refine (yD hra i9 hrb i9 (by rw [dZ];exact HB.out)).mono ?_
     rintro e w5 ⟨Aq,nq,cq,Ar,nr,cr,rfl,hnq,hrq,hoq,hnr,hrr,hor,hx5⟩
     rw [dZ,dZ] at hnr hrr hor
     go_wp2_with fail
     go_roundw
     case rel=>exact (KEY.out Aq Ar nq cq nr cr w5 hnr hrr hor hx5).1
     case measure=>exact (KEY.out Aq Ar nq cq nr cr w5 hnr hrr hor hx5).2
    ·have bn1:((n:Int)==1)=false:=by simp;omega
     clear hcase hd hn1'
     go_wp2_with fail
     refine (yD hra i9 hrb i9 (by rw [dZ];exact HB.out)).mono ?_
     rintro e w5 ⟨Aq,nq,cq,Ar,nr,cr,rfl,hnq,hrq,hoq,hnr,hrr,hor,hx5⟩
     rw [dZ,dZ] at hnr hrr hor
     go_wp2_with fail
     go_roundw
     case rel=>exact (KEY.out Aq Ar nq cq nr cr w5 hnr hrr hor hx5).1
     case measure=>exact (KEY.out Aq Ar nq cq nr cr w5 hnr hrr hor hx5).2
  ·have hb0:b=0:=oA.1 (by rw [←hm.out];omega)
   have e:Nat.gcd (nv xs) (nv ys)=a:=by rw [←hg.out,hb0,Nat.gcd_zero_right]
   have HE:=Lib.hid e
   clear e hb0
   go_wp2_with fail
   go_ret
   rw [HE.out]
   exact⟨A,n,cap,rfl,hn,hra,hoa,hr⟩
def sg (s:Bool)(m:Nat):Int:=if s then-(m:Int) else m
theorem nT (m:Nat):sg false m=m:=rfl
theorem uW (m:Nat):sg true m= -(m:Int):=rfl
theorem mY (s:Bool)(m:Nat):(sg s m).natAbs=m:=by cases s <;> simp [sg]
theorem DQ (z:Int):sg (decide (z<0)) z.natAbs=z:=by
 by_cases h:z<0
 ·rw [decide_eq_true h,uW];omega
 rw [decide_eq_false h,nT];omega
theorem UZ (s:Bool):sg s 0=0:=by cases s <;> rfl
theorem DR:sg s m=0↔m=0:=by cases s <;> simp [sg]
theorem zX (s:Bool)(m:Nat):sg (!s) m= -sg s m:=by cases s <;> simp [sg]
theorem xB (s:Bool)(m:Nat):decide (sg s m<0)=(s&&decide (0<m)):=by
 cases s
 ·simp [sg]
 by_cases h:0<m
 ·simp [sg,h]
 have:m=0:=by omega
 subst this;simp [sg]
theorem DS (s:Bool)(m k:Nat):sg s (m+k)=sg s m+sg s k:=by cases s <;> simp [sg] <;> omega
theorem uX (h:k≤m):sg s (m-k)=sg s m+sg (!s) k:=by cases s <;> simp [sg] <;> omega
theorem JL (s t:Bool)(m k:Nat):sg (s != t) (m*k)=sg s m*sg t k:=by
 cases s <;> cases t <;> simp [sg,Int.mul_neg,Int.neg_mul]
theorem DP (s t:Bool)(m k:Nat):sg (s != t) (m/k)=(sg s m).tdiv (sg t k):=by
 cases s <;> cases t <;> simp [sg,Int.tdiv_neg,Int.neg_tdiv]
theorem JK (s t:Bool)(m k:Nat):sg s (m%k)=(sg s m).tmod (sg t k):=by
 cases s <;> cases t <;> simp [sg,Int.tmod_neg,Int.neg_tmod] <;> rfl
def ln (z:Int):Nat:=(wd z.natAbs).length
theorem fR {x y:Int}(h:x.natAbs≤y.natAbs):ln x≤ln y:=iP h
theorem gQ (x:Int):ln (-x)=ln x:=by unfold ln;rw [Int.natAbs_neg]
theorem eK {x y:Int}{a:Nat}(hx:ln x≤a)(hy:ln y≤b):ln (x+y)≤max a b+1:=by
 have h1:=iP (Int.natAbs_add_le x y);have h2:=xW x.natAbs y.natAbs;unfold ln at*;omega
theorem jY {x y:Int}{a:Nat}(hx:ln x≤a)(hy:ln y≤b):ln (x-y)≤max a b+1:=by
 rw [Int.sub_eq_add_neg];exact eK hx (by rw [gQ];exact hy)
theorem dI {x y:Int}{a:Nat}(hx:ln x≤a)(hy:ln y≤b):ln (x*y)≤a+b:=by
 have h2:=xV x.natAbs y.natAbs;unfold ln at*;rw [Int.natAbs_mul];omega
theorem oW (m:Nat):ln (m:Int)=(wd m).length:=by unfold ln;rw [Int.natAbs_natCast]
theorem ZT:ln 0=0:=rfl
theorem MV:ln 1=1:=by decide+kernel
def Zi (w:a6)(s:Bool)(A:Option a7)(n cap:Nat)(z:Int):Prop:=∃xs,Rd w A n cap xs∧sg s (nv xs)=z
theorem Zi.ext (h:Zi w s A n cap z)(e:Ext w w'):Zi w' s A n cap z:=by
 obtain⟨xs,h1,h2⟩:=h;exact⟨xs,h1.ext e,h2⟩
theorem Zi.ln (h:Zi w s A n cap z):Go.Proofs.YtkkabncicmhjfaaGreatDoor.ln z≤n:=by
 obtain⟨xs,h1,rfl⟩:=h;have:=iT h1.wf;rw [h1.len] at this;unfold Go.Proofs.YtkkabncicmhjfaaGreatDoor.ln;rw [mY];exact this
theorem Zi.not (h:Zi w s A n cap z):Zi w (!s) A n cap (-z):=by
 obtain⟨xs,h1,rfl⟩:=h;exact⟨xs,h1,zX _ _⟩
structure Zr (w:a6)(base:Nat)(s:Bool)(A:Option a7)(n cap:Nat)(z:Int):Prop where
 sgn:s=decide (z<0)
 len:n=ln z
 own:Own w base 43 1 A n cap ((wd z.natAbs).map bF)
theorem Zr.rd (h:Zr w base s A n cap z):Rd w A n cap (wd z.natAbs):=h.own.rd (qX _)
theorem Zr.ext (h:Zr w base s A n cap z)(e:Ext w w'):Zr w' base s A n cap z:=⟨h.sgn,h.len,h.own.ext e⟩
theorem Zr.mono (h:Zr w base s A n cap z)(e:base'≤base):Zr w base' s A n cap z:=⟨h.sgn,h.len,h.own.mono e⟩
theorem Zr.zi (h:Zr w base s A n cap z):Zi w s A n cap z:=⟨_,h.rd,by rw [dZ,h.sgn,DQ]⟩
theorem Zr.upd (h:Zr w base s A n cap z)(hg:g<base)(e:Upd g w w'):Zr w' base s A n cap z:=
 ⟨h.sgn,h.len,h.own.upd e (fun a f=>by have:=(h.own.block a f).1;omega)⟩
theorem Zr.cast {z':Int}(h:Zr w base s A n cap z)(e:z=z'):Zr w base s A n cap z':=e▸h
theorem Zr.le (h:Zr w base s A n cap z)(hb:ln z≤b):n≤b:=by rw [h.len];exact hb
theorem Zr.ln_le (h:Zr w base s A n cap z)(hb:n≤b):ln z≤b:=by rw [←h.len];exact hb
theorem Zr.zero:Zr w base false none 0 0 0:=⟨by decide,rfl,Own.nil _ _ _ _⟩
def nK (w:a6)(z:Int)(e:eF)(w':a6):Prop:=
 ∃s A n cap,e= .returned (O s A n cap)∧Zr w' w.heap.size s A n cap z∧Ext w w'
def GP (w:a6)(q r:Int)(er:Int)(e:eF)(w':a6):Prop:=
 ∃s A n cap s' B m cap',e= .returned (.tuple #[O s A n cap,O s' B m cap',no er])∧Zr w' w.heap.size s A n cap q∧Zr w' w.heap.size s' B m cap' r∧Ext w w'
theorem lE (h:s'=decide (sg s m<0))(hn:n=(wd m).length)(ho:Own w base 43 1 A n cap ((wd m).map bF))(hz:sg s m=z):Zr w base s' A n cap z:=by
 have e:z.natAbs=m:=by rw [←hz,mY]
 rw [hz] at h;exact⟨h,by unfold ln;rw [e];exact hn,by rw [e];exact ho⟩
theorem Bk.two {t:aS}{a b:aF}(h:Bk w g t [a,b]):w.cell? ⟨g,0,none⟩=some a∧w.cell? ⟨g,1,none⟩=some b∧w.frozen? ⟨g,0,none⟩=false∧w.frozen? ⟨g,1,none⟩=false:=
 ⟨h.cell (i:=0) ym,h.cell (i:=1) ym,h.frozen 0,h.frozen 1⟩
theorem Bk.two_set {t:aS}{a b:aF}(h:Bk w g t [a,b])(u v:aF):Bk ((w.setCell ⟨g,0,none⟩ u).setCell ⟨g,1,none⟩ v) g t [u,v]:=(h.set 0 u).set 1 v
theorem Upd.two (u v:aF):Upd g w ((w.setCell ⟨g,0,none⟩ u).setCell ⟨g,1,none⟩ v):=((Upd.refl g w).setCell 0 u).setCell 1 v
theorem Bk.sec {t:aS}{l:Array aF}{a b:aF}:Bk ((w.alloc (.cells l t')).alloc (.cells #[a,b] t)) (w.heap.size+1) t [a,b]:=by
 have:=Bk.new (w.alloc (.cells l t')) t [a,b];simpa using this
theorem Bk.thi {t:aS}{l:Array aF}{a b:aF}:Bk (((w.alloc (.cells l t')).alloc (.cells l' t'')).alloc (.cells #[a,b] t)) (w.heap.size+2) t [a,b]:=by
 have:=Bk.new ((w.alloc (.cells l t')).alloc (.cells l' t'')) t [a,b];simpa using this
theorem Bk.fou {t t''':aS}{l l'':Array aF}{a b:aF}:Bk ((((w.alloc (.cells l t')).alloc (.cells l' t'')).alloc (.cells l'' t''')).alloc (.cells #[a,b] t)) (w.heap.size+3) t [a,b]:=by
 have:=Bk.new (((w.alloc (.cells l t')).alloc (.cells l' t'')).alloc (.cells l'' t''')) t [a,b];simpa using this
theorem G9 (w:a6)(t t':aS)(a b c d:aF):∃g g2 wa,w.heap.size+1=g2∧w.heap.size=g∧(w.alloc (.cells #[a,b] t)).alloc (.cells #[c,d] t')=wa∧Bk wa g t [a,b]∧Bk wa g2 t' [c,d]∧Ext w wa∧g<g2∧g2<wa.heap.size∧g≠g2∧g2≠g:=
 ⟨_,_,_,rfl,rfl,rfl,(Bk.new w t [a,b]).alloc _,Bk.sec,((Ext.refl w).alloc _).alloc _,by omega,by simp,by omega,by omega⟩
theorem C5 (w:a6)(t t' t'':aS)(a b c d e f:aF):∃g g2 g3 wa,w.heap.size+1+1=g3∧w.heap.size+1=g2∧w.heap.size=g∧((w.alloc (.cells #[a,b] t)).alloc (.cells #[c,d] t')).alloc (.cells #[e,f] t'')=wa∧Bk wa g t [a,b]∧Bk wa g2 t' [c,d]∧Bk wa g3 t'' [e,f]∧Ext w wa∧g<g2∧g2<g3∧g3<wa.heap.size∧g≠g2∧g2≠g∧g≠g3∧g3≠g∧g2≠g3∧g3≠g2:=
 ⟨_,_,_,_,rfl,rfl,rfl,rfl,((Bk.new w t [a,b]).alloc _).alloc _,Bk.sec.alloc _,Bk.thi,(((Ext.refl w).alloc _).alloc _).alloc _,by omega,by omega,by simp,by omega,by omega,by omega,by omega,by omega,by omega⟩
theorem G8 (w:a6)(t t' t'' t''':aS)(a b c d e f i j:aF):∃g g2 g3 g4 wa,w.heap.size+1+1+1=g4∧w.heap.size+1+1=g3∧w.heap.size+1=g2∧w.heap.size=g∧(((w.alloc (.cells #[a,b] t)).alloc (.cells #[c,d] t')).alloc (.cells #[e,f] t'')).alloc (.cells #[i,j] t''')=wa∧Bk wa g t [a,b]∧Bk wa g2 t' [c,d]∧Bk wa g3 t'' [e,f]∧Bk wa g4 t''' [i,j]∧Ext w wa∧g<g2∧g2<g3∧g3<g4∧g4<wa.heap.size∧g≠g2∧g2≠g∧g≠g3∧g3≠g∧g2≠g3∧g3≠g2∧g≠g4∧g4≠g∧g2≠g4∧g4≠g2∧g3≠g4∧g4≠g3:=
 ⟨_,_,_,_,_,rfl,rfl,rfl,rfl,rfl,(((Bk.new w t [a,b]).alloc _).alloc _).alloc _,(Bk.sec.alloc _).alloc _,Bk.thi.alloc _,Bk.fou,((((Ext.refl w).alloc _).alloc _).alloc _).alloc _,by omega,by omega,by omega,by simp,by omega,by omega,by omega,by omega,by omega,by omega,by omega,by omega,by omega,by omega,by omega,by omega⟩
theorem oB {w2:a6}{x y:aF}(_hb:Bk w2 g T [x,y])(hz:Zr w2 base s A n cap z)(he:Ext w w2)(hg:g<base:=by omega)(hw:w.heap.size≤g:=by omega):nK w z (.returned (O s A n cap)) ((w2.setCell ⟨g,0,none⟩ (.bool s)).setCell ⟨g,1,none⟩ (up A n cap)):=
 ⟨s,A,n,cap,rfl,(hz.upd hg (Upd.two _ _)).mono i9,(Upd.two _ _).ext he hw⟩
theorem nV {t:aS}{a b:aF}{s:Tmp}(hf:fn.results= #[.cell s 24])(hs:tmps.getD s undef= i5 g 0)(h:Bk w g t [a,b]):(results fn tmps).run aM w= .ok (.agg #[a,b]) w:=by
 obtain⟨h1,h2,_,_⟩:=h.two;have hs2:tmps[s]?.getD undef= i5 g 0:=by simpa using hs
 simp [results,hf,hs2,loadVar,loadCells,loadCellsFrom,go_sem,h1,h2]
def bM (x y:Int):Int:=if x<y then-1 else if x=y then 0 else 1
theorem JQ (x y:Int): -1≤bM x y∧bM x y≤1:=by unfold bM;split <;> (try split) <;> omega
theorem tA {x y:Int}:bM x y<0↔x<y:=by unfold bM;split <;> (try split) <;> omega
theorem mA {x y:Int}:bM x y=0↔x=y:=by unfold bM;split <;> (try split) <;> omega
theorem t8 {x y:Int}:0<bM x y↔y<x:=by unfold bM;split <;> (try split) <;> omega
def GO (v:Int)(w:a6)(e:eF)(w':a6):Prop:=∃c:Int,Hid (c=v)∧ -1≤c∧c≤1∧e= .returned (no c)∧Ext w w'
theorem mQ (hn:n=(wd m).length):aQ aM 93 #[.bool s,up A n cap] w fun e w'=>∃s',e= .returned (O s' A n cap)∧Hid (s'=decide (sg s m<0))∧Ext w w':=by
 have hm:decide (0<m)=decide (0<n):=by
  by_cases h:m=0
  ·rw [h] at hn⊢;rw [hn];rfl
  ·have:n≠0:=fun e=>h (oA.1 (by rw [←hn,e]))
   rw [decide_eq_true (show 0<m by omega),decide_eq_true (show 0<n by omega)]
 have HM:Hid (decide (sg s m<0)=(s&&decide (0<n))):=(show _=_ by rw [xB,hm]);clear hm hn
 go_enter Tryz.func93,Tryz.ntmps93
 cases s
 ·go_wp2_with fail
  refine kE (v:= O false A n cap) (by simp [results,Tryz.results93,go_sem]) J ?_;exact⟨_,rfl,(show _=_ by rw [HM.out];rfl),(Ext.refl w).alloc _⟩
 by_cases h:n=0
 ·subst h
  go_wp2_with fail
  refine kE (v:= O false A 0 cap) (by simp [results,Tryz.results93,go_sem]) J ?_;exact⟨_,rfl,(show _=_ by rw [HM.out];rfl),(Ext.refl w).alloc _⟩
 have h0:0<n:=by omega
 have hd:decide (0<n)=true:=decide_eq_true h0;have hi:0<(n:Int):=by omega
 go_wp2_with fail
 refine kE (v:= O true A n cap) (by simp [results,Tryz.results93,go_sem]) J ?_;exact⟨_,rfl,(show _=_ by rw [HM.out,hd];rfl),(Ext.refl w).alloc _⟩
theorem RN {x:Int}(hx:Zi w s A n cap x)(hl:n≤68719476736):aQ aM 53 #[O s A n cap] w (nK w (-x)):=by
 obtain⟨xs,hr,rfl⟩:=hx
 go_enter Tryz.func53,Tryz.ntmps53
 go_upto_region 1 with (fail)
 obtain⟨g,g2,wa,hg2,hg,hwa,hb1,hb2,hea,l12,l2,n12,n21⟩:=G9 w 24 24 (.bool s) (up A n cap) (wk) (up none 0 0);rw [hg2,hg,hwa];have hgw:w.heap.size≤g:=Nat.le_of_eq hg;clear hwa hg hg2;obtain⟨f1,f2,f3,f4⟩:=hb1.two;obtain⟨k1,k2,k3,k4⟩:=hb2.two
 go_region_held3 (fun w'=>w'.cell? ⟨g,0,none⟩=some (.bool s)∧w'.cell? ⟨g,1,none⟩=some (up A n cap)) (go_keep)
  (first
  | (go_at_call 94;refine (kY (hr.ext yn)).mono ?_;rintro e w1 ⟨A1,n1,c1,rfl,hn1,hr1,ho1,hx1⟩;have he1:Ext wa w1:=Ext.trans yn hx1;have hc1:=hb1.ext he1;have hc2:=hb2.ext he1;obtain⟨f1',f2',f3',f4'⟩:=hc1.two;obtain⟨k1',k2',k3',k4'⟩:=hc2.two)
  | (go_at_call 93;refine (mQ hn1.out).mono ?_;rintro e w2 ⟨s',rfl,hs',hx2⟩;have hd1:=hc1.ext hx2;have hd2:=hc2.ext hx2;obtain⟨f1'',f2'',f3'',f4''⟩:=hd1.two;obtain⟨k1'',k2'',k3'',k4''⟩:=hd2.two))
 go_wp2_with fail
 refine kE (nV J J (hd2.two_set _ _)) J ?_;exact oB hd2 ((lE hs'.out hn1.out ho1 (zX _ _)).ext hx2) (hea.trans (he1.trans hx2)) (hg:=(by first | omega | (simp;omega)))
theorem RQ {x:Int}(hx:Zi w s A n cap x)(hl:n≤68719476736):aQ aM 86 #[O s A n cap] w (nK w (x.natAbs:Int)):=by
 obtain⟨xs,hr,rfl⟩:=hx
 go_enter Tryz.func86,Tryz.ntmps86
 go_upto_region 1 with (fail)
 obtain⟨g,g2,wa,hg2,hg,hwa,hb1,hb2,hea,l12,l2,n12,n21⟩:=G9 w 24 24 (.bool s) (up A n cap) (wk) (up none 0 0);rw [hg2,hg,hwa];have hgw:w.heap.size≤g:=Nat.le_of_eq hg;clear hwa hg hg2;obtain⟨f1,f2,f3,f4⟩:=hb1.two
 go_wp2_with fail
 refine (kY (hr.ext hea)).mono ?_;rintro e w1 ⟨A1,n1,c1,rfl,hn1,hr1,ho1,hx1⟩;have hc2:=hb2.ext hx1
 go_wp2_with fail
 refine (mQ hn1.out).mono ?_;rintro e w2 ⟨s',rfl,hs',hx2⟩;have hd2:=hc2.ext hx2;obtain⟨k1,k2,k3,k4⟩:=hd2.two
 go_wp2_with fail
 refine kE (nV J J (hd2.two_set _ _)) J ?_;exact oB hd2 ((lE hs'.out hn1.out ho1 (by rw [mY,nT])).ext hx2) (hea.trans (hx1.trans hx2))
theorem HJ {t:Bool}{x y:Int}(hx:Zi w s A n cap x)(hl:n≤68719476736)(hy:Zi w t B m cap' y)(hl':m≤68719476736):aQ aM 74 #[O s A n cap,O t B m cap'] w (nK w (x*y)):=by
 obtain⟨xs,hr,rfl⟩:=hx;obtain⟨ys,hq,rfl⟩:=hy
 go_enter Tryz.func74,Tryz.ntmps74
 go_upto_region 1 with (fail)
 obtain⟨g,g2,g3,wa,hg3,hg2,hg,hwa,hb1,hb2,hb3,hea,l12,l23,l3,n12,n21,n13,n31,n23,n32⟩:=C5 w 24 24 24 (.bool s) (up A n cap) (.bool t) (up B m cap') (wk) (up none 0 0);rw [hg3,hg2,hg,hwa];have hgw:w.heap.size≤g:=Nat.le_of_eq hg;clear hwa hg hg2 hg3;obtain⟨f1,f2,f3,f4⟩:=hb1.two;obtain⟨h1,h2,h3,h4⟩:=hb2.two;obtain⟨k1,k2,k3,k4⟩:=hb3.two
 go_region_held3 (fun w'=>w'.cell? ⟨g,0,none⟩=some (.bool s)∧w'.cell? ⟨g,1,none⟩=some (up A n cap)∧w'.cell? ⟨g2,0,none⟩=some (.bool t)∧w'.cell? ⟨g2,1,none⟩=some (up B m cap')) (go_keep)
  (first
  | (go_at_call 107;refine (xS (hr.ext yn) (hq.ext yn)).mono ?_;rintro e w1 ⟨A1,n1,c1,rfl,hn1,hr1,ho1,hx1⟩;have he1:Ext wa w1:=Ext.trans yn hx1;have hc1:=hb1.ext he1;have hc2:=hb2.ext he1;have hc3:=hb3.ext he1;obtain⟨f1',f2',f3',f4'⟩:=hc1.two;obtain⟨h1',h2',h3',h4'⟩:=hc2.two;obtain⟨k1',k2',k3',k4'⟩:=hc3.two)
  | (go_at_call 93;refine (mQ hn1.out).mono ?_;rintro e w2 ⟨s',rfl,hs',hx2⟩;have hd1:=hc1.ext hx2;have hd2:=hc2.ext hx2;have hd3:=hc3.ext hx2;obtain⟨f1'',f2'',f3'',f4''⟩:=hd1.two;obtain⟨h1'',h2'',h3'',h4''⟩:=hd2.two;obtain⟨k1'',k2'',k3'',k4''⟩:=hd3.two))
 go_wp2_with fail
 refine kE (nV J J (hd3.two_set _ _)) J ?_;exact oB hd3 ((lE hs'.out hn1.out ho1 (JL _ _ _ _)).ext hx2) (hea.trans (he1.trans hx2)) (hg:=(by first | omega | (simp;omega)))
theorem CX {x:Int}(hx:Zi w s A n cap x)(hl:n≤68719476736):aQ aM 50 #[O s A n cap] w (GO (bM x 0) w):=by
 obtain⟨xs,hr,rfl⟩:=hx
 go_enter Tryz.func50,Tryz.ntmps50
 go_upto_region 1 with (fail)
 have hb1:=Bk.new w 24 (a5 s A n cap);obtain⟨wa,hwa⟩:∃wa,w.alloc (.cells #[.bool s,.slice A n cap] 24)=wa:=⟨_,rfl⟩;rw [hwa];obtain⟨g,hg⟩:∃g,w.heap.size=g:=⟨_,rfl⟩;rw [hg] at hb1⊢;have hb1':Bk wa g 24 (a5 s A n cap):=by rw [←hwa];exact hb1
 have hea:Ext w wa:=by rw [←hwa];exact (Ext.refl w).alloc _
 clear hwa hg hb1;obtain⟨f1,f2,f3,f4⟩:=hb1'.two
 go_wp2_with fail
 refine (B5 (hr.ext hea) i9).mono ?_;rintro e w1 ⟨b,hb,rfl,hx1'⟩;have hx1:=hea.trans hx1';obtain⟨f1',f2',f3',f4'⟩:=(hb1'.ext hx1').two;by_cases h0:b=0
 ·subst h0;have hz:nv xs=0:=pZ.1 hb.out.symm;have HZ:=Lib.hid hz;clear hz
  go_wp2_with fail
  go_ret
  exact⟨0,(show _=_ by rw [HZ.out,UZ];rfl),by omega,by omega,rfl,hx1⟩
 have bb:((b:Int)==0)=false:=by simp;omega
 have hz:0<nv xs:=Nat.pos_of_ne_zero (fun e=>h0 (by rw [hb.out,e];rfl));have HZ:=Lib.hid hz;clear hz h0;cases s
 ·go_wp2_with fail
  go_ret
  refine⟨1,?_,by omega,by omega,rfl,hx1⟩;show _=_;rw [nT,bM,if_neg i9,if_neg (by have:=HZ.out;omega)]
 go_wp2_with fail
 go_ret
 refine⟨-1,?_,by omega,by omega,rfl,hx1⟩;show _=_;rw [uW,bM,if_pos (by have:=HZ.out;omega)]
def uE (b:Bool)(w:a6)(e:eF)(w':a6):Prop:=e= .returned (.bool b)∧Ext w w'
theorem KO (hx:Rd w A n cap xs)(hl:n≤1099511627776)(hy:Rd w B n' cap' ys)(hl':n'≤1099511627776):aQ aM 46 #[up A n cap,up B n' cap'] w (uE (decide (xs=ys)) w):=by
 have hlx:=Lib.hid hx.len;have hly:=Lib.hid hy.len;by_cases hn:n=n'
 ·subst hn;have h1:((n:Int) != (n:Int))=false:=by simp
  go_enter Tryz.func46,Tryz.ntmps46
  go_wp2_with fail
  go_loopw [5] (fun u wr=>∃i:Nat,i≤n∧u= no (i:Int)∧Hid (xs.take i=ys.take i)∧Ext w wr) (fun u wr=>n-(intOf u).toNat)
  case atStart=>exact⟨0,bX _,rfl,rfl,Ext.refl w⟩
  case round=>
   obtain⟨i,hi,rfl,hv,hext⟩:=hrel
   by_cases h0:i<n
   ·obtain⟨a,p,rfl,hxk,hxb,hc⟩:=(hx.ext hext).get (i:=i) i9
    obtain⟨b,q,rfl,hyk,hyb,hd⟩:=(hy.ext hext).get (i:=i) i9
    by_cases hpq:p=q
    ·subst hpq
     have h2:((p:Int) != (p:Int))=false:=by simp
     go_wp2_with fail
     go_quiet (fail)
     go_wp2_with fail
     go_roundw
     case rel=>
      refine⟨i+1,by omega,by go_num,?_,yn⟩
      show _=_
      rw [x7 xs i (by rw [hlx.out];omega) 0,x7 ys i (by rw [hly.out];omega) 0,hv.out,hxk.out,hyk.out]
     case measure=>simp [intOf];omega
    ·have h2:((p:Int) != (q:Int))=true:=by simp;omega
     go_wp2_with fail
     go_quiet (fail)
     go_wp2_with fail
     go_ret
     have hne:decide (xs=ys)=false:=by
      refine decide_eq_false (fun e=>hpq ?_)
      rw [←hxk.out,←hyk.out,e]
     rw [hne]
     exact⟨rfl,yn⟩
   ·go_wp2_with fail
    go_ret
    have he:decide (xs=ys)=true:=by
     refine decide_eq_true ?_
     have h:=hv.out
     rwa [List.take_of_length_le (by rw [hlx.out];omega),List.take_of_length_le (by rw [hly.out];omega)] at h
    rw [he]
    exact⟨rfl,hext⟩
 have h1:((n:Int) != (n':Int))=true:=by simp;omega
 go_enter Tryz.func46,Tryz.ntmps46
 go_wp2_with fail
 go_ret
 have hne:decide (xs=ys)=false:=decide_eq_false (fun e=>hn (by rw [←hlx.out,←hly.out,e]));rw [hne];exact⟨rfl,Ext.refl w⟩
theorem Own.updT {t:aS}{s:Nat}(h:Own w base t s A n cap vs)(hb:Bk w g T us)(hT:t≠T)(e:Upd g w w'):Own w' base t s A n cap vs:=by
 refine h.upd e (fun a f hg=>?_);rcases h with⟨h,_⟩ | ⟨k,cs,E,_,o,_⟩
 ·rw [h] at f;cases f
 rw [E] at f;cases f;simp only at hg;subst hg;unfold Bk at o hb;rw [o] at hb;injection hb with hb;injection hb with h1 h2;exact hT h2
theorem Zr.updT (h:Zr w base s A n cap z)(hb:Bk w g T us)(e:Upd g w w')(hT:43≠T:=by decide):Zr w' base s A n cap z:=
 ⟨h.sgn,h.len,h.own.updT hb hT e⟩
theorem Bk.updN (h:Bk w g T vs)(e:Upd g' w w')(hne:g≠g'):Bk w' g T vs:=h.upd e hne
theorem Bk.vN (h:Bk w g T vs)(e:Upd g' w w')(hne : g≠g' := by omega):Bk w' g T vs := h.updN e hne
theorem vL (x:Int):ln (x.natAbs:Int)=ln x:=by unfold ln;rw [Int.natAbs_natCast]
theorem DV {x y:Int}(h:x=y):cQ .eql (bM x y) 0=some true:=by
 have e:bM x y=0:=mA.2 h;rw [e];rfl
theorem uY {x y:Int}(h:x≠y):cQ .eql (bM x y) 0=some false:=by
 have e:¬bM x y=0:=fun e=>h (mA.1 e);simp only [cQ,f7,beq_eq_false_iff_ne,ne_eq];exact e
theorem qI {x y:Int}(h:x≠y):cQ .neq (bM x y) 0=some true:=by
 have e:¬bM x y=0:=fun e=>h (mA.1 e);simp only [cQ,f7,bne_iff_ne,ne_eq];exact e
theorem rJ {x y:Int}(h:x=y):cQ .neq (bM x y) 0=some false:=by
 have e:bM x y=0:=mA.2 h;rw [e];rfl
theorem tB {x y:Int}(h:x<y):cQ .lss (bM x y) 0=some true:=by
 have e:=tA.2 h;simp only [cQ,f7,decide_eq_true_eq];exact e
theorem tC {x y:Int}(h:y≤x:=by omega):cQ .lss (bM x y) 0=some false:=by
 have e:¬bM x y<0:=fun e=>by have:=tA.1 e;omega
 simp only [cQ,f7,decide_eq_false_iff_not];exact e
theorem JO {x y:Int}(h:x≤y):cQ .leq (bM x y) 0=some true:=by
 have e:¬0<bM x y:=fun e=>by have:=t8.1 e;omega
 simp only [cQ,f7,decide_eq_true_eq];omega
theorem DU {x y:Int}(h:y<x):cQ .leq (bM x y) 0=some false:=by
 have e:=t8.2 h;simp only [cQ,f7,decide_eq_false_iff_not];omega
theorem AB {x y:Int}(h:y<x):cQ .gtr (bM x y) 0=some true:=by
 have e:=t8.2 h;simp only [cQ,f7,decide_eq_true_eq];exact e
theorem AC {x y:Int}(h:x≤y:=by omega):cQ .gtr (bM x y) 0=some false:=by
 have e:¬0<bM x y:=fun e=>by have:=t8.1 e;omega
 simp only [cQ,f7,decide_eq_false_iff_not];exact e
theorem V5 {x y:Int}(h:y≤x):cQ .geq (bM x y) 0=some true:=by
 have e:¬bM x y<0:=fun e=>by have:=tA.1 e;omega
 simp only [cQ,f7,decide_eq_true_eq];omega
theorem V6 {x y:Int}(h:x<y):cQ .geq (bM x y) 0=some false:=by
 have e:=tA.2 h;simp only [cQ,f7,decide_eq_false_iff_not];omega
structure AggT (P:cO)(T:aS)(k:Nat):Prop where
 agg:∀w,(isAgg T).run P w= .ok true w
 size:∀w,(sizeOf T).run P w= .ok k w
theorem E1 (h:w.cell? p=some v):(load p).run P w= .ok v w:=by
 simp only [load,Sem.run,h]
theorem DX {u:aF}(h:w.cell? p=some u)(hf:w.frozen? p=false)(h1:v.oneCell'=true):(store p v).run P w= .ok () (w.setCell p v):=by
 rw [run_store P w p v .plain h1,h,hf];rfl
theorem AG {P:cO}{w:a6}{p:a7}:∀(vs:List aF) (i:Nat) (acc:Array aF),(∀j,j<vs.length→w.cell? (p.add (i+j))=some (vs.getD j undef))→
  (loadCellsFrom p i vs.length acc).run P w= .ok (acc++vs.toArray) w
 | [],i,acc,_=>by simp [loadCellsFrom]
 | v::vs,i,acc,h=>by
  have h0:=h 0 ym
  simp only [fN,List.getD_cons_zero] at h0
  have ih:=AG (P:=P) (p:=p) vs (i+1) (acc.push v) (fun j f=>by
   have:=h (j+1) (by simpa using f)
   rw [show i+1+j=i+(j+1) by omega]
   simpa using this)
  show ((load (p.add i)>>=fun v=>loadCellsFrom p (i+1) vs.length (acc.push v):Sem (Array aF))).run P w=_
  have e:(load (p.add i)).run P w= .ok v w:=E1 h0
  rw [cV,e]
  simp only [fK,ih]
  simp
theorem bK (hT:AggT P T k)(hb:Bk w g T' vs)(us:List aF)(hu:us.length=k)(hle:off+k≤vs.length)(he:(vs.drop off).take k=us):(loadVar T ⟨g,off,none⟩).run P w= .ok (.agg us.toArray) w:=by
 subst hu
 have h1:=AG (P:=P) (w:=w) (p:=⟨g,off,none⟩) us 0 #[] (fun j f=>by
  rw [eR,jI,hb.cell i9]
  congr 1
  rw [←he]
  simp only [bL,lK,nO]
  rw [if_pos f])
 unfold loadVar loadCells;rw [cV,hT.agg w];simp only [fK,if_true,cV,hT.size w,h1];simp
theorem cE (hT:∀w,(isAgg T).run P w= .ok false w)(hb:Bk w g T' vs)(hv:vs[i]?=some v):(loadVar T ⟨g,i,none⟩).run P w= .ok v w:=by
 have hi:i<vs.length:=(gU.1 hv).1;have hc:=hb.cell hi;rw [bL,hv] at hc;unfold loadVar;rw [cV,hT w];simp only [fK,H9,if_false];exact E1 hc
def jP (vs:List aF)(off:Nat)(us:List aF):List aF:=vs.take off++us++vs.drop (off+us.length)
theorem zT {P:cO}{g:Nat}{T:aS}:∀(us:List aF) (i off:Nat) (w:a6) (vs:List aF),Bk w g T vs→off+i+us.length≤vs.length→(∀u∈us,u.oneCell'=true)→
  ∃w',(storeCells ⟨g,off,none⟩ us i).run P w= .ok () w'∧Bk w' g T (jP vs (off+i) us)∧Upd g w w'∧w'.heap.size=w.heap.size
 | [],i,off,w,vs,hb,_,_=>⟨w,rfl,by simpa [jP] using hb,Upd.refl g w,rfl⟩
 | u::us,i,off,w,vs,hb,hle,h1=>by
  have hi:off+i<vs.length:=by simp at hle;omega
  have hc:=hb.cell hi
  have hf:=hb.frozen (off+i)
  have h:=hb.set (off+i) u
  obtain⟨w',hr,f,o,hs⟩:=zT (P:=P) us (i+1) off (w.setCell ⟨g,off+i,none⟩ u) (vs.set (off+i) u) h (by simp at hle⊢;omega) (fun x hx=>h1 x (by simp [hx]))
  refine⟨w',?_,?_,((Upd.refl g w).setCell (off+i) u).trans o,by rw [hs];simp [wH]⟩
  ·show ((store ((⟨g,off,none⟩:a7).add i) u>>=fun _=>storeCells ⟨g,off,none⟩ us (i+1):Sem Unit)).run P w=_
   rw [jI,cV,DX hc hf (h1 u ym)]
   exact hr
  ·have e:jP (vs.set (off+i) u) (off+(i+1)) us=jP vs (off+i) (u::us):=by
    unfold jP
    have E:(vs.set (off+i) u).take (off+(i+1))=vs.take (off+i)++ [u]:=by
     rw [show off+(i+1)=off+i+1 by omega,x7 _ _ (by simpa using hi) undef,List.take_set_of_le (aU _)]
     congr 2
     rw [bL,List.getElem?_set_self hi];rfl
    rw [E,List.drop_set_of_lt i9]
    simp only [fO,List.append_assoc,wR,List.nil_append]
    rw [show off+(i+1)+us.length=off+i+(us.length+1) by omega]
   rw [←e];exact f
theorem AF (hT:AggT P T k)(hk:us.length=k)(hb:Bk w g T' vs)(hle:off+k≤vs.length)(h1:us.all (·.oneCell')=true)(us':List aF)(he:jP vs off us=us'):∃w',(storeVar T ⟨g,off,none⟩ (.agg us.toArray)).run P w= .ok () w'∧Bk w' g T' us'∧Upd g w w'∧w'.heap.size=w.heap.size:=by
 subst hk;obtain⟨w',hr,f,h,hs⟩:=zT (P:=P) us 0 off w vs hb i9 (by simpa [gK] using h1);rw [fN,he] at f;refine⟨w',?_,f,h,hs⟩;unfold storeVar;rw [cV];show ((sizeOf T).run P w).andThen _=_;rw [hT.size w];have e:(Value.agg us.toArray).cells=us.toArray:=rfl;simp only [fK,e,CO,ne_eq,not_true,if_false];exact hr
theorem D3 {Q:dX→Act→a6→Prop}{l:Fr}{pos:String}(hw:dD ops l gd=some true){x y:cR}(hx:cB l x=some (i5 g off))(hy:cB l y=some (.agg us.toArray))(hT:AggT P T k)(hk:us.length=k)(hb:Bk w g T' vs)(hle:off+k≤vs.length)(h1:us.all (·.oneCell')=true)(us':List aF)(he:jP vs off us=us')(h:∀w',Bk w' g T' us'→Upd g w w'→w'.heap.size=w.heap.size→wl P ops Q n rest l w'):wl P ops Q n (⟨none,.store T x y,ty,pos,af,gd⟩::rest) l w:=by
 obtain⟨w',hr,f,o,hs⟩:=AF (P:=P) hT hk hb hle h1 us' he;exact wV hw (p:=⟨g,off,none⟩) hx hy (w':=w') hr (h w' f o hs)
theorem i0 {Q:dX→Act→a6→Prop}{l:Fr}{pos:String}(hw:dD ops l gd=some true){x y:cR}(hx:cB l x=some (i5 g off))(hy:cB l y=some v)(hT:∀w,(sizeOf T).run P w= .ok 1 w)(hv:v.cells= #[v])(hb:Bk w g T' vs)(hle:off<vs.length)(h1:v.oneCell'=true)(us':List aF)(he:vs.set off v=us')(h:∀w',Bk w' g T' us'→Upd g w w'→w'.heap.size=w.heap.size→wl P ops Q n rest l w'):wl P ops Q n (⟨none,.store T x y,ty,pos,af,gd⟩::rest) l w:=by
 have f:=hb.set off v;rw [he] at f;refine wV hw (p:=⟨g,off,none⟩) hx hy (w':=w.setCell ⟨g,off,none⟩ v) ?_ (h _ f ((Upd.refl g w).setCell off v) (by simp [wH]));unfold storeVar;rw [cV];show ((sizeOf T).run P w).andThen _=_;rw [hT w];simp only [fK,hv,CO,fO,List.length_nil,ne_eq,not_true,eR,if_false];show ((store ((⟨g,off,none⟩:a7).add 0) v>>=fun _=>storeCells ⟨g,off,none⟩ [] (0+1):Sem Unit)).run P w=_;rw [jI,fN,cV,DX (hb.cell hle) (hb.frozen off) h1];rfl
section
variable {P:cO}{Q:dX→Act→a6→Prop}{n:Nat}{l:Fr}{w:a6}{ops:Array bE}{rest:List bE}{d:Nat}{ty:aS}{pos:String}{af:Array fL}{gd:Option (Nat×Bool)}
theorem K1 {t:aS}{s:Nat}{a:a7}{k:j7}{i:Int}(hT:P.underlying t=some (.slice e))(hs:∀w,(sizeOf e).run P w= .ok s w)(h0:0≤i)(h1:i<m):(Instr.indexAt t (up (some a) m c) (.int k i)).run P w= .ok (.pointer (some (a.add (i.toNat*s)))) w:=by
 have f:(underlying t).run P w= .ok (.slice e) w:=nL hT w;unfold Instr.indexAt;simp only [asIntOf,cV,iH,fK,f];rw [if_pos ⟨h0,h1⟩];simp only [cV,hs w,fK,iH]
theorem zI (hw:dD ops l gd=some true){x y:cR}{t:aS}{s:Nat}{a:a7}{k:j7}{i:Int}(hx:cB l x=some (up (some a) m c))(hy:cB l y=some (.int k i))(hT:P.underlying t=some (.slice e))(hs:∀w,(sizeOf e).run P w= .ok s w)(p:a7)(hp:a.add (i.toNat*s)=p)(h:wl P ops Q n rest ((d,.pointer (some p))::l) w)(h0:0≤i:=by omega)(h1:i<m:=by omega)(hn:d<n:=by decide):wl P ops Q n (⟨some d,.indexAddr t x y,ty,pos,af,gd⟩::rest) l w:=
 gO hw hn (fun a' f=>by
  have e:(Instr.indexAt t (a'.eval x) (a'.eval y)).run P w= .ok (.pointer (some p)) w:=by rw [f.ev hx,f.ev hy,←hp];exact K1 hT hs h0 h1
  show ((Instr.indexAt t (a'.eval x) (a'.eval y)>>=fun r=>pure (iE r):Sem gS)).run P w=_
  rw [cV,e];rfl) h
def LQ (v:Option aF)(k:Nat)(dflt:Nat):Prop:=(v=none∧k=dflt)∨v=some (no (k:Int))
theorem xF {k:BoundsCode}(h:i≤cap):(Instr.sliceBound (no (i:Int)) cap k).run P w= .ok i w:=by
 unfold Instr.sliceBound;simp only [asIntOf,cV,iH,fK];rw [if_pos ⟨by omega,by omega⟩];rfl
theorem W0 {t:aS}{s lo:Nat}(hT:P.underlying t=some (.slice e))(hs:∀w,(sizeOf e).run P w= .ok s w)(h1:LQ low lo 0)(h2:LQ high hi m)(h3:lo≤hi)(h4:hi≤c):(Instr.sliceAt t (up A m c) low high none).run P w= .ok (up (if c=lo then A else A.map (·.add (lo*s))) (hi-lo) (c-lo)) w:=by
 have f:(underlying t).run P w= .ok (.slice e) w:=nL hT w
 have hb:(Instr.sliceBounds true m c low high none).run P w= .ok (lo,hi,c) w:=by
  unfold Instr.sliceBounds
  rcases h1 with⟨rfl,rfl⟩ | rfl <;> rcases h2 with⟨rfl,rfl⟩ | rfl
  ·simp only [cV,iH,fK]
  ·simp only [cV,iH,fK,xF h4,if_true]
  ·simp only [cV,iH,fK,Option.isSome,xF h3]
  ·simp only [cV,iH,fK,Option.isSome,xF h4,xF h3,if_true]
 unfold Instr.sliceAt;simp only [cV,f,fK];unfold Instr.slice;simp only [cV,f,fK,hb,hs w,iH]
theorem mS (hw:dD ops l gd=some true){x:cR}{t:aS}{s lo:Nat}(hx:cB l x=some (up A m c))(hT:P.underlying t=some (.slice e))(hs:∀w,(sizeOf e).run P w= .ok s w)(h1:match lo' with | none=>lo=0 | some y=>cB l y=some (no (lo:Int)))(h2:match hi' with | none=>hi=m | some y=>cB l y=some (no (hi:Int)))(h3:lo≤hi)(h4:hi≤c)(hv:qZ (if c=lo then A else A.map (·.add (lo*s))) (hi-lo) (c-lo)=v)(hn:d<n)(h:wl P ops Q n rest ((d,v)::l) w):wl P ops Q n (⟨some d,.slice t x lo' hi' none,ty,pos,af,gd⟩::rest) l w:=
 gO hw hn (fun a' f=>by
  have e:(Instr.sliceAt t (a'.eval x) (lo'.map a'.eval) (hi'.map a'.eval) (Option.map a'.eval none)).run P w= .ok v w:=by
   rw [f.ev hx,←hv]
   refine W0 hT hs ?_ ?_ h3 h4
   ·cases lo' with
    | none=>exact cJ ⟨rfl,h1⟩
    | some y=>exact cN (by show some (a'.eval y)=_;rw [f.ev h1])
   ·cases hi' with
    | none=>exact cJ ⟨rfl,h2⟩
    | some y=>exact cN (by show some (a'.eval y)=_;rw [f.ev h2])
  show ((Instr.sliceAt t (a'.eval x) (lo'.map a'.eval) (hi'.map a'.eval) (Option.map a'.eval none)>>=fun r=>pure (iE r):Sem gS)).run P w=_
  rw [cV,e];rfl) h
theorem tJ (hT:AggT P T k)(us:List aF)(hu:us.length=k)(hc:∀j,j<us.length→w.cell? (p.add j)=some (us.getD j undef)):(loadVar T p).run P w= .ok (.agg us.toArray) w:=by
 subst hu;have h1:=AG (P:=P) (w:=w) (p:=p) us 0 #[] (fun j f=>by rw [eR];exact hc j f);unfold loadVar loadCells;rw [cV,hT.agg w];simp only [fK,if_true,cV,hT.size w,h1];simp
theorem d5 (hT:∀w,(isAgg T).run P w= .ok false w)(hc:w.cell? p=some v):(loadVar T p).run P w= .ok v w:=by
 unfold loadVar;rw [cV,hT w];simp only [fK,H9,if_false];exact E1 hc
end
theorem a3R (a:a7):a.add 0=a:=by simp [pI]
theorem MM (h:i<n):cQ .lss (i:Int) (n:Int)=some true:=by simp only [cQ,f7,decide_eq_true_eq];omega
theorem MN (h:n≤i):cQ .lss (i:Int) (n:Int)=some false:=by simp only [cQ,f7,decide_eq_false_iff_not];omega
theorem tR {a b:Int}(h:b≤a:=by omega):cQ .geq a b=some true:=by simp only [cQ,f7,decide_eq_true_eq];omega
theorem mJ {a b:Int}(h:a<b:=by omega):cQ .geq a b=some false:=by simp only [cQ,f7,decide_eq_false_iff_not];omega
theorem xU {a b:Int}(h:a<b):cQ .lss a b=some true:=by simp only [cQ,f7,decide_eq_true_eq];omega
theorem tI {a b:Int}(h:b≤a:=by omega):cQ .lss a b=some false:=by simp only [cQ,f7,decide_eq_false_iff_not];omega
theorem qQ {a b:Int}(h:b<a:=by omega):cQ .gtr a b=some true:=by simp only [cQ,f7,decide_eq_true_eq];omega
theorem pW {a b:Int}(h:a≤b:=by omega):cQ .gtr a b=some false:=by simp only [cQ,f7,decide_eq_false_iff_not];omega
theorem NH {a b:Int}(h:a≤b):cQ .leq a b=some true:=by simp only [cQ,f7,decide_eq_true_eq];omega
theorem NI {a b:Int}(h:b<a):cQ .leq a b=some false:=by simp only [cQ,f7,decide_eq_false_iff_not];omega
theorem fE {a b:Int}(h:a=b):cQ .eql a b=some true:=by subst h;simp [cQ]
theorem gC {a b:Int}(h:a≠b):cQ .eql a b=some false:=by simp only [cQ,f7,beq_eq_false_iff_ne,ne_eq];exact h
theorem pO {a b:Int}(h:a≠b):cQ .neq a b=some true:=by simp only [cQ,f7,bne_iff_ne,ne_eq];exact h
theorem pP {a b:Int}(h:a=b):cQ .neq a b=some false:=by subst h;simp [cQ]
theorem vZ {a b c:Int}(h:a+b=c:=by omega)(h1: -9223372036854775808≤c:=by omega)(h2:c≤9223372036854775807:=by omega):eY .add .i64 a b=some c:=by
 simp only [eY,f7];rw [h];exact IntWalk.i64_in _ ⟨h1,h2⟩
theorem fS {a b c:Int}(h:a-b=c)(h1: -9223372036854775808≤c:=by omega)(h2:c≤9223372036854775807:=by omega):eY .sub .i64 a b=some c:=by
 simp only [eY,f7];rw [h];exact IntWalk.i64_in _ ⟨h1,h2⟩
theorem yI {a b c:Int}(h:a*b=c)(h1: -9223372036854775808≤c)(h2:c≤9223372036854775807):eY .mul .i64 a b=some c:=by
 simp only [eY,f7];rw [h];exact IntWalk.i64_in _ ⟨h1,h2⟩
theorem a3I {a b c:Int}(hb:b≠0)(h:a.tdiv b=c)(h1: -9223372036854775808≤c)(h2:c≤9223372036854775807):eY .quo .i64 a b=some c:=by
 simp only [eY];rw [if_neg hb,h,f7];exact IntWalk.i64_in _ ⟨h1,h2⟩
end
end Go.Proofs.YtkkabncicmhjfaaGreatDoor
