/- Parts Base, Mem, Sx, Sxd, Sxe, Bits, Div64, Div64b, Radix, Nat, NatB, Mulnat, MulnatB, MulnatC, MulnatD, Divnat, DivnatB, Shr, joined. -/
import Derived.Deep.Slices
import Derived.WalkKit
import Derived.WalkSpells
import Derived.Deep.Draws
import Derived.Lib.Hide
import Derived.Laws.CopyOwn
import Derived.Deep.QuietTactic
import Derived.BigQuiet
import Derived.Deep.RegionHeld3
import Derived.Deep.RegionWith
import Derived.Deep.DeepCutAuto
import Derived.Deep.DeepMust
import Derived.Deep.DeepFit
import Derived.Handy
import Derived.OwnWalk
import Derived.Maps.AppendAt
import Derived.Test.YtkepckmdjncehaaGreatDoorShelf
import Derived.Shelf.Spec.BitsCarry
import Derived.Lib.ItoaNum
import Derived.Deep.CutBlock
import Derived.Test.YtkepckmdjncehaaGreatDoorProg
import Derived.WalkMore

open Go.Act renaming put → nX
open Go renaming Addr → aB, BinOp → j3, Calls → aP, Ending → dL, Exit → dI, IntKind → iN, Next → fI, Oper → bD, Operand → cN, Program → bW, ResultVar → uA, TypeId → aS, Value → aM, World → a6, bodyPost_ret → fO, run_underlying → m8, wpList_plain → zY
open Go.Addr renaming add → mZ
open Array renaming getD_eq_getD_getElem? → pB, getElem?_eq_some_iff → qL, getElem?_replicate → AO, getElem?_setIfInBounds_ne → EM, replicate → pA
open Go.RowKit.Below renaming heap_setCell → NF
open BitVec renaming ofInt → p8
open Bool renaming and_eq_true → eK, not_eq_true' → AN, or_eq_true → mY
open Go.Builtin renaming append_ → qK, firstCells → NE
open Classical renaming choose → wP, choose_spec → EK
open Go.Code renaming wp_mono → EJ
open Go.Deferred renaming ofValue → ND
open Go.Exit renaming inBlock → sN
open Go.Instr renaming alloc → AM, loadAt → AL, makeSlice → qJ, storeAt → AK
open Int renaming natCast_mul → mX, tdiv_eq_ediv_of_nonneg → wO, toNat_natCast → gZ
open Go.IntKind renaming bits → uG, signed → uF, wrap → wN
open List renaming all_eq_true → fV, any_eq_true → AJ, cons_append → uE, contains_iff_mem → jR, countP_cons → AH, countP_le_length → AG, drop_eq_getElem_cons → nW, drop_zero → gP, eq_nil_iff_forall_not_mem → wM, eq_nil_of_length_eq_zero → uD, filter_append → NC, getD_eq_getElem?_getD → bK, getElem?_drop → oZ, getElem?_eq_getElem → cC, getElem?_eq_none → k8, getElem?_eq_some_iff → gY, getElem?_map → mE, getElem?_take → kY, getElem_mem → mD, getElem_of_mem → wL, getLast_eq_getElem → NB, length_cons → eN, length_drop → gO, length_eq_zero_iff → sM, length_take → dH, map_cons → jZ, map_drop → uC, map_nil → kX, map_take → kW, map_toArray → sL, mem_append → nV, mem_cons → mW, mem_of_mem_drop → qH, mem_of_mem_take → qG, mem_or_eq_of_mem_set → NA, mem_range → iT, mem_replicate → EI, mem_singleton → oY, range → gE, replicate → cJ, replicate_succ → AF, take_append_drop → sK, take_succ_cons → AD
open Nat renaming add_assoc → iM, add_lt_add_iff_right → N4, add_mul → dK, add_mul_div_left → AC, add_mul_mod_self_left → AB, add_right_cancel_iff → N0, add_sub_cancel → mC, add_zero → fC, beq → oX, div_add_mod → mV, div_eq_of_lt → i8, div_le_self → fH, div_lt_iff_lt_mul → uB, div_lt_of_lt_mul → wK, div_lt_self → kI, eq_of_beq_eq_true → sJ, eq_zero_or_pos → jQ, le_of_not_lt → oW, le_refl → aZ, le_trans → a8, lt_mul_div_succ → qE, lt_of_le_of_lt → jY, lt_of_lt_of_le → dJ, lt_of_not_le → mU, lt_or_ge → i7, min_eq_left → gD, mod_add_div → iS, mod_eq_of_lt → gN, mod_lt → f7, mul_add → cI, mul_add_div → oV, mul_assoc → bX, mul_comm → cL, mul_div_mul_right → EH, mul_le_mul → jP, mul_le_mul_left → fJ, mul_le_mul_right → eI, mul_lt_mul'' → wJ, mul_lt_mul_of_pos_right → sI, mul_mod_mul_right → AA, mul_one → dV, mul_pos → iL, mul_right_comm → sH, mul_succ → qD, mul_zero → gM, or_lt_two_pow → qC, pow_add → dU, pow_le_pow_right → eS, pow_lt_pow_iff_right → zZ, pow_pos → gB, pow_succ → cW, strongRecOn → sG, sub_add_cancel → jO, succ_le_of_lt → nU, succ_mul → nT, two_pow_pos → mB, zero_add → eJ, zero_le → bJ
open Ne renaming symm → kH
open Go.Next renaming value → fZ
open Go.Op renaming intArith → EG, intDiv → wI
open Go.Oper renaming upon → kG, wp → mA
open Option renaming getD_some → oU, map_some → wH
open Option.some renaming inj → m9, injEq → eB
open Or renaming inl → cH, inr → cO
open Go.Region renaming binds → jN, ready → qB, wanted → qA
open Go.Result renaming andThen_ok → eY
open Go.Sem renaming run_bind → cE, run_pure → gT
open Go.Proofs.Tryz renaming prog → aN
open Go.Value renaming int → dP, pointer → wG
open Go.World.grownBy renaming refl → EF
open Go.World renaming setCell → sD
namespace Go.Proofs.YtkepckmdjncehaaGreatDoor
set_option maxHeartbeats 4000000
abbrev i5(g:Nat)(o:Nat):Value:=.pointer (some ⟨g,o,none⟩)
abbrev no(k:Int):Value:=.int .i64 k
abbrev up(k:Int):Value:=.int .u64 k
abbrev we(A:Option Addr)(n c:Nat):Value:=.slice A n c
abbrev AI:Value:=.bool true
abbrev AS:Value:=.bool false
theorem AT:True:=trivial
theorem J.{z}{α:Sort z}{a:α}:a=a:=rfl
abbrev O(s:Bool)(A:Option Addr)(n c:Nat):Value:=.agg #[.bool s,.slice A n c]
abbrev a9(s:Bool)(A:Option Addr)(n c:Nat)(t:Bool)(B:Option Addr)(m d:Nat):Value:=.agg #[.bool s,.slice A n c,.bool t,.slice B m d]
abbrev a5(s:Bool)(A:Option Addr)(n c:Nat):List Value:=[.bool s,.slice A n c]
variable {A B S dp sp:Option aB}{K N V b base bytes cap cap' cc d g hi i id j k lo2 m n n' q r r0 s u u0 u1 u2 un un0 un1 un10 v0 v1 x y yn0 yn1 yy:Nat}{P:bW}{T:Type}{a:Act}{after:Array Edge}{args cs us vs:List aM}{c:Code}{ds fl js l st xs ys zs:List Nat}{dss:List (List Nat)}{dst:Option Tmp}{e t' ty:aS}{er:Int}{f:FuncId}{fn:Func}{gd guard:Option (Nat×Bool)}{listed:Array Bool}{o:bD}{ol rest:List bD}{op:j3}{ops:Array bD}{p:aB}{ps:List (Nat×Nat)}{rl:List uA}{ts:Array aS}{v vx vy z:aM}{w w' w0 w1 wt:a6}
section
def WB:Nat:=18446744073709551616
theorem gC:0<WB:=by decide
theorem cP:WB=18446744073709551616:=rfl
theorem ML:2≤WB:=by decide
def nv:List Nat→Nat
 | []=>0
 | x::r=>x+WB*nv r
def Wf (xs:List Nat):Prop:=∀x∈xs,x<WB
theorem pO (x:Nat)(r:List Nat):nv (x::r)=x+WB*nv r:=rfl
theorem CG (xs ys:List Nat):nv (xs++ys)=nv xs+WB^xs.length*nv ys:=by
 induction xs with
 | nil=>simp [nv]
 | cons x r ih=>
  simp only [uE,nv,ih,eN,cW]
  rw [cI,←bX,cL WB (WB^r.length),iM]
theorem iV (h:Wf xs):nv xs<WB^xs.length:=by
 induction xs with
 | nil=>simp [nv]
 | cons x r ih=>
  have hx:x<WB:=h x (by simp)
  have hr:=ih (fun y e=>h y (by simp [e]))
  simp only [nv,eN,cW]
  have:WB*nv r+WB≤WB*WB^r.length:=by
   have:=fJ WB (nU hr)
   rw [qD] at this;exact this
  rw [cL (WB^r.length)]
  omega
theorem xT (n:Nat):nv (cJ n 0)=0:=by
 induction n with
 | zero=>rfl
 | succ n ih=>simp [AF,nv,ih]
theorem IV (xs:List Nat)(x:Nat):nv (xs++ [x])=nv xs+WB^xs.length*x:=by
 rw [CG];simp [nv]
def pD:Nat→Nat→List Nat
 | 0,_=> []
 | f+1,n=>if n=0 then [] else n%WB::pD f (n/WB)
def wd (n:Nat):List Nat:=pD n n
theorem FC (f:Nat):∀(g n:Nat),n≤f→n≤g→pD f n=pD g n:=by
 induction f with
 | zero=>
  intro g n h _
  have:n=0:=by omega
  subst this
  cases g <;> simp [pD]
 | succ f ih=>
  intro g n h hg
  by_cases h0:n=0
  ·subst h0;cases g <;> simp [pD]
  ·cases g with
   | zero=>omega
   | succ g=>
    have e:n/WB<n:=kI (by omega) (by decide)
    simp only [pD,h0,if_false]
    rw [ih g (n/WB) (by omega) (by omega)]
theorem nC:wd 0= []:=rfl
theorem qN (h:n≠0):wd n=n%WB::wd (n/WB):=by
 have e:n/WB<n:=kI (by omega) (by decide)
 unfold wd
 conv=>lhs;rw [FC n (n+1) n (aZ _) (by omega)]
 simp only [pD,h,if_false]
 rw [FC n (n/WB) (n/WB) (by omega) (aZ _)]
theorem FB {p:Nat→Prop}(h0:p 0)(hs:∀n,n≠0→p (n/WB)→p n)(n:Nat):p n:=by
 induction n using sG with
 | ind n ih=>
  by_cases h:n=0
  ·subst h;exact h0
  ·exact hs n h (ih _ (kI (by omega) (by decide)))
theorem dA (n:Nat):nv (wd n)=n:=by
 induction n using FB with
 | h0=>rfl
 | hs n h ih=>rw [qN h,pO,ih];exact iS n WB
theorem oS (n:Nat):Wf (wd n):=by
 induction n using FB with
 | h0=>intro x hx;cases hx
 | hs n h ih=>
  rw [qN h]
  intro x hx
  cases mW.1 hx with
  | inl e=>subst e;exact f7 _ gC
  | inr e=>exact ih x e
theorem OK {a:Nat}(h:wd a=wd b):a=b:=by rw [←dA a,h,dA]
theorem OL:wd n= []↔n=0:=by
 constructor
 ·intro h;rw [←dA n,h];rfl
 ·rintro rfl;rfl
theorem m0:(wd n).length=0↔n=0:=by
 rw [sM];exact OL
theorem F9:∀{xs:List Nat},Wf xs→(∀h:xs≠ [],xs.getLast h≠0)→wd (nv xs)=xs
 | [],_,_=>rfl
 | [x],hw,ht=>by
  have hx:x<WB:=hw x (by simp)
  have h0:x≠0:=ht (by simp)
  simp only [nv,gM,fC]
  rw [qN h0,gN hx,i8 hx,nC]
 | x::y::r,hw,ht=>by
  have hx:x<WB:=hw x (by simp)
  have ih:=F9 (xs:=y::r) (fun z o=>hw z (by simp [o])) (fun h=>by have:=ht (by simp);simpa [List.getLast_cons] using this)
  have f:nv (y::r)≠0:=by
   intro e
   rw [e,nC] at ih
   cases ih
  have hn:nv (x::y::r)≠0:=by
   rw [pO]
   have:0<WB*nv (y::r):=iL gC (by omega)
   omega
  rw [qN hn,pO,AB,gN hx,AC _ _ gC,i8 hx,eJ,ih]
theorem OJ (hw:Wf xs)(ht:xs.length=0∨xs.getD (xs.length-1) 0≠0):wd (nv xs)=xs:=by
 refine F9 hw (fun h=>?_)
 have hl:xs.length≠0:=by simpa using h
 rcases ht with h' | h'
 ·exact absurd h' hl
 ·rw [NB]
  have:xs.length-1<xs.length:=by omega
  rwa [bK,cC this,oU] at h'
theorem s7 (h:Wf xs)(k:Nat):Wf (xs.take k):=fun x hx=>h x (qG hx)
theorem E7 (h:Wf xs)(k:Nat):Wf (xs.drop k):=fun x hx=>h x (qH hx)
theorem E8 (h:Wf xs)(k:Wf ys):Wf (xs++ys):=fun x hx=>by
 rcases nV.1 hx with e | e
 ·exact h x e
 ·exact k x e
theorem tV (h:Wf xs)(i:Nat):xs.getD i 0<WB:=by
 by_cases hi:i<xs.length
 ·rw [bK,cC hi];exact h _ (mD hi)
 ·rw [bK,k8 (by omega)];exact gC
theorem MK:Wf []:=fun x hx=>by cases hx
theorem mR (n:Nat):Wf (cJ n 0):=fun x hx=>by rw [(EI.1 hx).2];exact gC
theorem E6 (h:x<WB):Wf [x]:=fun y e=>by rw [oY.1 e];exact h
theorem gR (h:Wf xs)(i:Nat)(hx:x<WB):Wf (xs.set i x):=fun y f=>by
 rcases NA f with e | e
 ·exact h y e
 ·rw [e];exact hx
theorem uM {α:Type}(xs:List α)(k:Nat)(h:k<xs.length)(d:α):xs.take (k+1)=xs.take k++ [xs.getD k d]:=by
 rw [List.take_succ_eq_append_getElem h,bK,cC h];rfl
theorem eT (xs:List Nat)(k:Nat)(h:k<xs.length):nv (xs.take (k+1))=nv (xs.take k)+WB^k*xs.getD k 0:=by
 rw [uM xs k h 0,IV,dH,gD (by omega)]
theorem oJ (xs:List Nat)(k:Nat)(h:k≤xs.length):nv xs=nv (xs.take k)+WB^k*nv (xs.drop k):=by
 have:=CG (xs.take k) (xs.drop k)
 rw [sK,dH,gD h] at this
 exact this
theorem rB (xs:List Nat)(k:Nat)(h:k<xs.length)(h0:xs.getD k 0=0):nv (xs.take (k+1))=nv (xs.take k):=by
 rw [eT xs k h,h0];simp
theorem lW (h:Wf xs)(k:Nat):nv (xs.take k)<WB^k:=by
 have h1:=iV (s7 h k)
 have h2:WB^(xs.take k).length≤WB^k:=eS gC (by rw [dH];omega)
 omega
theorem uJ (hw:Wf xs)(hk:k≤xs.length)(hv:nv (xs.take k)=nv xs)(ht:k=0∨xs.getD (k-1) 0≠0):wd (nv xs)=xs.take k:=by
 have hl:(xs.take k).length=k:=by rw [dH];omega
 rw [←hv]
 refine OJ (s7 hw k) ?_
 rw [hl]
 rcases ht with h | h
 ·exact cH h
 ·by_cases h0:k=0
  ·exact cH h0
  ·refine cO ?_
   rw [bK,kY,if_pos (by omega),←bK]
   exact h
theorem iX (h : n < WB ^ k): (wd n).length ≤ k := by
  induction k generalizing n with
  | zero => have : n = 0 := by simp at h; omega
            subst this; simp [nC]
  | succ k ih =>
    by_cases h0 : n = 0
    · subst h0; simp [nC]
    · rw [qN h0, eN]
      have : n / WB < WB ^ k := by rw [uB gC]; rwa [← cW]
      have := ih this
      omega
theorem lY (n:Nat):n<WB^(wd n).length:=by
 have:=iV (oS n)
 rwa [dA] at this
theorem IF (h:n≠0):WB^((wd n).length-1)≤n:=by
 refine oW (fun f=>?_)
 have h1:=iX f
 have h2:(wd n).length≠0:=fun e=>h (m0.1 e)
 omega
theorem gJ (h:Wf xs):(wd (nv xs)).length≤xs.length:=iX (iV h)
theorem gK {a:Nat}(h:a≤b):(wd a).length≤(wd b).length:=iX (jY h (lY b))
theorem vG (a b:Nat):(wd (a+b)).length≤max (wd a).length (wd b).length+1:=by
 refine iX ?_
 have e:=lY a
 have hb:=lY b
 have h1:WB^(wd a).length≤WB^max (wd a).length (wd b).length:=eS gC (Nat.le_max_left _ _)
 have h2:WB^(wd b).length≤WB^max (wd a).length (wd b).length:=eS gC (Nat.le_max_right _ _)
 rw [cW]
 have f:WB^max (wd a).length (wd b).length*2≤WB^max (wd a).length (wd b).length*WB:=fJ _ ML
 omega
theorem vF (a b:Nat):(wd (a*b)).length≤(wd a).length+(wd b).length:=by
 refine iX ?_
 rw [dU]
 by_cases e:a=0
 ·subst e;simp only [Nat.zero_mul];exact iL (gB gC) (gB gC)
 ·exact wJ (lY a) (lY b)
theorem wY (h:x<WB)(h0:x≠0):wd x= [x]:=by
 rw [qN h0,gN h,i8 h,nC]
theorem oB:∀{xs:List Nat}{m:Nat},Wf xs→m=(wd (nv xs)).length→wd (nv xs)=xs.take m
 | [],m,_,h=>by simp [nv,nC]
 | x::r,m,hw,h=>by
  have hx:x<WB:=hw x (by simp)
  by_cases h0:nv (x::r)=0
  ·rw [h0,nC] at h⊢
   subst h;rfl
  ·have f:nv (x::r)/WB=nv r:=by rw [pO,AC _ _ gC,i8 hx,eJ]
   have e:nv (x::r)%WB=x:=by rw [pO,AB,gN hx]
   rw [qN h0,f,e] at h⊢
   obtain⟨k,rfl⟩:∃k,m=k+1:=⟨m-1,by rw [h,eN];rfl⟩
   rw [eN] at h
   rw [AD,←oB (fun y o=>hw y (by simp [o])) (by omega)]
def dY (a b:Nat):Int:=if a<b then-1 else if a=b then 0 else 1
theorem zD {a:Nat}(h:a<b):dY a b= -1:=by simp [dY,h]
theorem LQ (a:Nat):dY a a=0:=by simp [dY]
theorem zE {a:Nat}(h:b<a):dY a b=1:=by
 unfold dY;rw [if_neg (by omega),if_neg (by omega)]
theorem LR (a b:Nat): -1≤dY a b∧dY a b≤1:=by
 unfold dY;split
 ·omega
 ·split <;> omega
theorem lO {a:Nat}:dY a b<0↔a<b:=by
 unfold dY;split
 ·simp_all
 ·split <;> simp_all
theorem DP {a:Nat}:0<dY a b↔b<a:=by
 unfold dY;split
 ·simp_all;omega
 ·split <;> simp_all;omega
theorem J8 {a:Nat}(h:(wd a).length<(wd b).length):a<b:=by
 refine mU (fun e=>?_)
 have:=gK e
 omega
theorem IR (hx:Wf xs)(hkx:k<xs.length)(hky:k<ys.length)(h:xs.getD k 0<ys.getD k 0):nv (xs.take (k+1))<nv (ys.take (k+1)):=by
 rw [eT xs k hkx,eT ys k hky]
 have h1:=lW hx k
 have h2:WB^k*xs.getD k 0+WB^k≤WB^k*ys.getD k 0:=by
  have:=fJ (WB^k) (nU h)
  rwa [qD] at this
 omega
theorem ZI (hkx:k<xs.length)(hky:k<ys.length)(h:xs.getD k 0=ys.getD k 0):dY (nv (xs.take (k+1))) (nv (ys.take (k+1)))=dY (nv (xs.take k)) (nv (ys.take k)):=by
 rw [eT xs k hkx,eT ys k hky,h]
 unfold dY
 simp only [N4,N0]
theorem pN (hw:Wf xs)(h:m=(wd (nv xs)).length):nv (xs.take m)=nv xs:=by
 rw [←oB hw h,dA]
theorem uY (x:Nat):nv [x]=x:=by simp [nv]
end
section
open Go.RowKit
abbrev bF (x:Nat):aM:= up (x:Int)
theorem RT {k:iN}{a b:Int}(h:a=b):Ending.returned (.int k a)= .returned (.int k b):=by rw [h]
theorem fQ {k:iN}{a b:Int}(h:a=b:=by omega):dP k a=dP k b:=by rw [h]
theorem tS (a:aB)(n:Nat):(a.add n).block=a.block:=by unfold mZ;split <;> rfl
theorem tU (a:aB)(i j:Nat):(a.add i).add j=a.add (i+j):=by
 unfold mZ
 by_cases hi:i=0 <;> by_cases e:j=0 <;> simp [hi,e,iM]
theorem kV (g o i:Nat):(⟨g,o,none⟩:aB).add i=⟨g,o+i,none⟩:=by
 unfold mZ;split <;> simp_all
structure Ext (w w':a6):Prop where
 below:Below w.heap.size w w'
theorem Ext.refl (w:a6):Ext w w:=⟨Below.refl _ _⟩
theorem Ext.trans {a b c:a6}(h:Ext a b)(k:Ext b c):Ext a c:=⟨h.below.trans (k.below.mono h.below.size)⟩
theorem Ext.t {a b c:a6}(h : Ext a b)(k : Ext b c): Ext a c := h.trans k
theorem aL {a:a6}: Ext a a := Ext.refl a
theorem Ext.size {a b:a6}(h:Ext a b):a.heap.size≤b.heap.size:=h.below.size
theorem Ext.alloc {a:a6}(h:Ext a w)(o:Obj):Ext a (w.alloc o):=⟨h.below.alloc h.below.size o⟩
theorem Ext.drew {a:a6}(h:Ext a w):Ext a w.drew:=⟨h.below.drew⟩
theorem Ext.drewN {a:a6}(h:Ext a w)(n:Nat):Ext a (w.drewN n):=⟨⟨h.below.os,h.below.tape,h.below.output,h.below.size,h.below.block⟩⟩
theorem Ext.setCell {a:a6}(h:Ext a w)(hp:a.heap.size≤p.block)(u:aM):Ext a (w.setCell p u):=⟨h.below.setCell hp u⟩
theorem Ext.grown {a:a6}{row:Option Nat}(h:Ext a w)(hg:w.grownBy w' row)(hr:∀k,row=some k→a.heap.size≤k):Ext a w':=⟨h.below.grown hg h.below.size hr⟩
theorem Ext.cell (h:Ext w w')(hc:w.cell? p=some v):w'.cell? p=some v:=
 (h.below.cell (World.block_lt_of_cell? w p hc)).trans hc
theorem Ext.heap (h:Ext w w'){o:Obj}(hc:w.heap[g]?=some o):w'.heap[g]?=some o:=
 (h.below.block g (qL.1 hc).1).trans hc
structure Upd (g:Nat)(w w':a6):Prop where
 by_:w.grownBy w' (some g)
theorem Upd.ext {a:a6}(h:Upd g w w')(e:Ext a w)(hg:a.heap.size≤g):Ext a w':=e.grown h.by_ (fun k f=>by cases f;exact hg)
theorem Upd.refl (g:Nat)(w:a6):Upd g w w:=⟨EF _ _⟩
theorem Upd.trans {a b c:a6}(h:Upd g a b)(k:Upd g b c):Upd g a c:=
 ⟨⟨k.by_.os.trans h.by_.os,k.by_.tape.trans h.by_.tape,k.by_.output.trans h.by_.output,a8 h.by_.size k.by_.size,
  fun i hi e=>(k.by_.block i (dJ hi h.by_.size) e).trans (h.by_.block i hi e)⟩⟩
theorem Upd.setCell {a:a6}(h:Upd g a w)(i:Nat)(u:aM):Upd g a (w.setCell ⟨g,i,none⟩ u):=
 h.trans ⟨⟨rfl,rfl,rfl,by simp [sD],fun k _ f=>NF _ _ _ _ (fun e=>f (by rw [e]))⟩⟩
theorem Upd.drew {a:a6}(h:Upd g a w):Upd g a w.drew:=⟨⟨h.by_.os,h.by_.tape,h.by_.output,h.by_.size,h.by_.block⟩⟩
theorem Upd.then_ext {a:a6}(h:Upd g a w)(e:Ext w w'):Upd g a w':=
 h.trans ⟨⟨e.below.os,e.below.tape,e.below.output,e.below.size,fun k f _=>e.below.block k f⟩⟩
theorem Upd.of_ext (e:Ext w w'):Upd g w w':=(Upd.refl g w).then_ext e
theorem Upd.heap (h:Upd g w w'){o:Obj}(hc:w.heap[k]?=some o)(hne:k≠g):w'.heap[k]?=some o:=
 (h.by_.block k (qL.1 hc).1 (fun e=>hne (m9 e))).trans hc
theorem Upd.size (h:Upd g w w'):w.heap.size≤w'.heap.size:=h.by_.size
theorem Upd.cell (h:Upd g w w')(hc:w.cell? p=some v)(hne:p.block≠g):w'.cell? p=some v:=
 h.by_.cell hc (fun e=>hne (m9 e))
structure Rv (w:a6)(s:Nat)(A:Option aB)(n cap:Nat)(vs:List aM):Prop where
 len:vs.length=n*s
 le:n≤cap
 max:cap≤maxLen
 get:∀i,i<n*s→∃a,A=some a∧w.cell? (a.add i)=some (vs.getD i undef)
 blk:∀a,A=some a→0<cap→a.block<w.heap.size
theorem Rv.ext (h:Rv w s A n cap vs)(e:Ext w w'):Rv w' s A n cap vs:=
 ⟨h.len,h.le,h.max,fun i hi=>by obtain⟨a,f,o⟩:=h.get i hi;exact⟨a,f,e.cell o⟩,fun a f o=>dJ (h.blk a f o) e.size⟩
theorem Rv.upd (h:Rv w s A n cap vs)(e:Upd g w w')(hne:∀a,A=some a→a.block≠g):Rv w' s A n cap vs:=
 ⟨h.len,h.le,h.max,fun i hi=>by obtain⟨a,f,o⟩:=h.get i hi;exact⟨a,f,e.cell o (by rw [tS];exact hne a f)⟩,fun a f o=>dJ (h.blk a f o) e.size⟩
theorem Rv.nil (w:a6)(s:Nat):Rv w s none 0 0 []:=⟨by simp,aZ _,by decide,fun i hi=>by omega,fun a e=>by cases e⟩
theorem Rv.cut (h:Rv w s A n cap vs){l:Nat}(hl:l≤k)(hk:k≤n)(hm:k≤m)(hc:m≤cap):Rv w s (if m=l then A else A.map (·.add (l*s))) (k-l) (m-l) ((vs.take (k*s)).drop (l*s)):=by
 have q:k*s≤n*s:=eI s hk
 have r:l*s≤k*s:=eI s hl
 refine⟨?_,by omega,a8 (by omega) h.max,fun i hi=>?_,fun a f _=>?_⟩
 ·rw [gO,dH,h.len,Nat.sub_mul,gD q]
 ·rw [Nat.sub_mul] at hi
  obtain⟨a,f,o⟩:=h.get (l*s+i) (by omega)
  have p:¬m=l:=fun e=>by
   have:k=l:=by omega
   subst this;omega
  rw [if_neg p,f]
  refine⟨a.add (l*s),rfl,?_⟩
  rw [tU,o]
  congr 1
  simp only [bK,oZ]
  rw [kY,if_pos (by omega)]
 ·split at f
  ·exact h.blk a f (by omega)
  ·cases A with
   | none=>cases f
   | some b=>simp only [wH,eB] at f;subst f;rw [tS];exact h.blk b rfl (by omega)
structure Rd (w:a6)(A:Option aB)(n cap:Nat)(xs:List Nat):Prop where
 rv:Rv w 1 A n cap (xs.map bF)
 wf:Wf xs
theorem Rd.ext (h:Rd w A n cap xs)(e:Ext w w'):Rd w' A n cap xs:=⟨h.rv.ext e,h.wf⟩
theorem Rd.upd (h:Rd w A n cap xs)(e:Upd g w w')(hne:∀a,A=some a→a.block≠g):Rd w' A n cap xs:=⟨h.rv.upd e hne,h.wf⟩
theorem Rd.len (h:Rd w A n cap xs):xs.length=n:=by simpa using h.rv.len
theorem Rd.nil (w:a6):Rd w none 0 0 []:=⟨Rv.nil w 1,MK⟩
theorem Rd.get (h:Rd w A n cap xs)(hi:i<n):∃a x,A=some a∧Hid (xs.getD i 0=x)∧x≤18446744073709551615∧w.cell? (a.add i)=some (up (x:Int)):=by
 obtain⟨a,f,o⟩:=h.rv.get i (by omega)
 have hl:i<xs.length:=by rw [h.len];exact hi
 have e:=tV h.wf i
 refine⟨a,_,f,rfl,by rw [cP] at e;omega,?_⟩
 rw [o]
 simp [bK,mE,cC hl]
theorem Rd.cut (h:Rd w A n cap xs){l:Nat}(hl:l≤k)(hk:k≤n)(hm:k≤m)(hc:m≤cap):Rd w (if m=l then A else A.map (·.add l)) (k-l) (m-l) ((xs.take k).drop l):=by
 have:=h.rv.cut hl hk hm hc
 simp only [dV] at this
 refine⟨?_,E7 (s7 h.wf _) _⟩
 rw [uC,kW]
 exact this
theorem Rd.take (h:Rd w A n cap xs)(hk:k≤n)(hm:k≤m)(hc:m≤cap):Rd w A k m (xs.take k):=by
 have:=h.cut (l:=0) (bJ _) hk hm hc
 simp only [Nat.sub_zero,gP] at this
 have e:(if m=0 then A else A.map (·.add 0))=A:=by
  have h0:∀a:aB,a.add 0=a:=fun a=>by simp [mZ]
  split
  ·rfl
  ·cases A <;> simp [h0]
 rwa [e] at this
def Bk (w:a6)(g:Nat)(t:aS)(vs:List aM):Prop:=w.heap[g]?=some (.cells vs.toArray t (0,0))
section
variable {w w':a6}{g:Nat}{t:aS}{vs:List aM}
theorem Bk.lt (h:Bk w g t vs):g<w.heap.size:=(qL.1 h).1
theorem Bk.ext (h:Bk w g t vs)(e:Ext w w'):Bk w' g t vs:=e.heap h
theorem Bk.upd (h:Bk w g t vs)(e:Upd k w w')(hne:g≠k):Bk w' g t vs:=e.heap h hne
theorem Bk.cell (h:Bk w g t vs)(hi:i<vs.length):w.cell? ⟨g,i,none⟩=some (vs.getD i undef):=by
 rw [cell_of_row w g i _ t (0,0) h]
 simp [bK,cC hi]
theorem Bk.frozen (h:Bk w g t vs)(i:Nat):w.frozen? ⟨g,i,none⟩=false:=by
 unfold Bk at h
 simp [World.frozen?,h]
theorem Bk.new (w:a6)(t:aS)(vs:List aM):Bk (w.alloc (.cells vs.toArray t)) w.heap.size t vs:=heap_alloc_new w _
theorem Bk.new' (w:a6)(t:aS)(cs:Array aM):Bk (w.alloc (.cells cs t)) w.heap.size t cs.toList:=heap_alloc_new w _
theorem Bk.set (h:Bk w g t vs)(i:Nat)(u:aM):Bk (w.setCell ⟨g,i,none⟩ u) g t (vs.set i u):=by
 unfold Bk at h⊢
 simp [sD,Array.getElem?_modify,h]
theorem Bk.far (h:Bk w g t vs)(hp:g≠p.block)(u:aM):Bk (w.setCell p u) g t vs:=(NF w p u g hp).trans h
theorem Bk.alloc (h:Bk w g t vs)(o:Obj):Bk (w.alloc o) g t vs:=h.ext ((Ext.refl w).alloc o)
theorem Bk.drew (h:Bk w g t vs):Bk w.drew g t vs:=h
theorem Bk.drewN (h:Bk w g t vs)(n:Nat):Bk (w.drewN n) g t vs:=h
theorem Bk.rv (h:Bk w g t vs){o:Nat}(hn:n≤cap)(hc:o+cap≤vs.length)(hm:cap≤maxLen):Rv w 1 (some ⟨g,o,none⟩) n cap ((vs.drop o).take n):=by
 refine⟨by rw [dH,gO];omega,hn,hm,fun i hi=>⟨_,rfl,?_⟩,fun a e _=>by cases e;exact h.lt⟩
 rw [kV,h.cell (by omega)]
 congr 1
 simp only [bK,kY,oZ]
 rw [if_pos (by omega)]
theorem Bk.rd (h:Bk w g t (xs.map bF))(hw:Wf xs){o:Nat}(hn:n≤cap)(hc:o+cap≤xs.length)(hm:cap≤maxLen):Rd w (some ⟨g,o,none⟩) n cap ((xs.drop o).take n):=by
 refine⟨?_,s7 (E7 hw _) _⟩
 rw [kW,uC]
 exact h.rv hn (by simpa using hc) hm
end
theorem Bk.word {t:aS}(h:Bk w g t (xs.map bF))(hw:Wf xs)(hi:i<xs.length):∃x,Hid (xs.getD i 0=x)∧x≤18446744073709551615∧w.cell? ⟨g,i,none⟩=some (up (x:Int)):=by
 have e:=tV hw i
 refine⟨_,rfl,by rw [cP] at e;omega,?_⟩
 rw [h.cell (by simpa using hi)]
 simp [bK,mE,cC hi]
def Own (w:a6)(base:Nat)(t:aS)(s:Nat)(A:Option aB)(n cap:Nat)(vs:List aM):Prop:=
 (A=none∧n=0∧cap=0∧vs= [])∨∃g cs,A=some ⟨g,0,none⟩∧base≤g∧Bk w g t cs∧n≤cap∧cap≤maxLen∧cs.length=cap*s∧cs.take (n*s)=vs
section
variable {w w':a6}{base:Nat}{t:aS}{s:Nat}{A:Option aB}{n cap:Nat}{vs:List aM}
theorem Own.nil (w:a6)(base:Nat)(t:aS)(s:Nat):Own w base t s none 0 0 []:=cH ⟨rfl,rfl,rfl,rfl⟩
theorem Own.mk_ (hb:base≤g)(h:Bk w g t cs)(hn:n≤cap)(hm:cap≤maxLen)(hl:cs.length=cap*s)(hv:cs.take (n*s)=vs):Own w base t s (some ⟨g,0,none⟩) n cap vs:=
 cO ⟨g,cs,rfl,hb,h,hn,hm,hl,hv⟩
theorem Own.ext (h:Own w base t s A n cap vs)(e:Ext w w'):Own w' base t s A n cap vs:=by
 rcases h with h | ⟨g,cs,f,hb,o,r⟩
 ·exact cH h
 ·exact cO ⟨g,cs,f,hb,o.ext e,r⟩
theorem Own.upd (h:Own w base t s A n cap vs)(e:Upd k w w')(hne:∀a,A=some a→a.block≠k):Own w' base t s A n cap vs:=by
 rcases h with h | ⟨g,cs,f,hb,o,r⟩
 ·exact cH h
 ·exact cO ⟨g,cs,f,hb,o.upd e (hne _ f),r⟩
theorem Own.mono {base':Nat}(h:Own w base t s A n cap vs)(hb:base'≤base):Own w base' t s A n cap vs:=by
 rcases h with h | ⟨g,cs,e,hg,r⟩
 ·exact cH h
 ·exact cO ⟨g,cs,e,by omega,r⟩
theorem Own.rv (h:Own w base t s A n cap vs):Rv w s A n cap vs:=by
 rcases h with⟨rfl,rfl,rfl,rfl⟩ | ⟨g,cs,rfl,hb,e,hn,f,hl,rfl⟩
 ·exact Rv.nil w s
 ·have p:n*s≤cap*s:=eI s hn
  refine⟨by rw [dH];omega,hn,f,fun i hi=>⟨_,rfl,?_⟩,fun a o _=>by cases o;exact e.lt⟩
  rw [kV,eJ,e.cell (by omega)]
  congr 1
  simp only [bK,kY]
  rw [if_pos hi]
theorem Own.rd (h:Own w base t 1 A n cap (xs.map bF))(hw:Wf xs):Rd w A n cap xs:=⟨h.rv,hw⟩
theorem Own.block (h:Own w base t s A n cap vs):∀a,A=some a→base≤a.block∧a.block<w.heap.size:=by
 intro a e
 rcases h with h | ⟨g,cs,o,hb,f,_⟩
 ·rw [h.1] at e;cases e
 ·rw [o] at e;cases e;exact⟨hb,f.lt⟩
end
theorem eG:maxLen=9223372036854775807:=rfl
theorem dX (xs:List Nat)(i x:Nat):(xs.map bF).set i (up (x:Int))=(xs.set i x).map bF:=by rw [List.map_set]
def zc (z:aM)(n:Nat):Array aM:=(cJ n z).toArray
theorem wT (z:aM)(n:Nat):(zc z n).toList=cJ n z:=rfl
theorem kN {t:aS}(ht:P.underlying t=some (.slice e))(hinfo:(P.info? e).map (fun i=>(i.zero,i.size,i.bytes))=some (some z,1,bytes))(hz:z.cells= #[z])(hby:bytes≤64)(l:Int)(h0:0≤l)(h1:l≤1099511627776)(w:a6):(qJ t (no l) (no l)).run P w= .ok (we (some ⟨w.heap.size,0,none⟩) l.toNat l.toNat) (w.alloc (.cells (zc z l.toNat) e)):=by
 obtain⟨i,hi,f,o,p⟩:=info_parts hinfo
 have h:=run_make (P:=P) w t e i z ht hi f .i64 .i64 l l h0 (Int.le_refl _) (by rw [p];have:(bytes:Int)*l≤64*1099511627776:=Int.mul_le_mul (by omega) h1 h0 (by omega);omega) (by omega)
 rw [h,o,dV,hz]
 congr 3
 apply Array.ext'
 rw [toList_madeCells_one,wT]
theorem GM {t:aS}(ht:P.underlying t=some (.slice e))(hinfo:(P.info? e).map (fun i=>(i.zero,i.size,i.bytes))=some (some z,1,bytes))(hz:z.cells= #[z])(hby:bytes≤64)(l:Int)(h0:0≤l)(h1:l≤1099511627776)(w:a6):(qJ t (no 0) (no l)).run P w= .ok (we (some ⟨w.heap.size,0,none⟩) 0 l.toNat) (w.alloc (.cells (zc z l.toNat) e)):=by
 obtain⟨i,hi,f,o,p⟩:=info_parts hinfo
 have h:=run_make (P:=P) w t e i z ht hi f .i64 .i64 0 l (by omega) h0 (by rw [p];have:(bytes:Int)*l≤64*1099511627776:=Int.mul_le_mul (by omega) h1 h0 (by omega);omega) (by omega)
 rw [h,o,dV,hz]
 congr 3
 apply Array.ext'
 rw [toList_madeCells_one,wT]
theorem Upd.setRow {a:a6}(h:Upd g a w)(cs:Array aM):Upd g a (w.setRow g cs):=
 h.trans ⟨⟨rfl,rfl,rfl,by simp [World.setRow],fun k _ f=>setRow_other w g k cs (fun e=>f (by rw [e]))⟩⟩
theorem d5 {Q:dI→Act→a6→Prop}(d:Option Tmp){op:Op}{type:aS}{pos:String}(h:wpList P ops Q (⟨d,op,type,pos,after,guard⟩::rest) a w):wpList P ops Q (⟨d,op,type,pos,after,guard⟩::rest) a w:=h
theorem wU {Q:dI→Act→a6→Prop}(hgd:o.guard=none)(d s:cN)(dT sT:aS)(ho:o.op= .call {callee:= .builtin .copy,args:= #[d,s],argTypes:= #[dT,sT]}){dLen dCap sLen sCap:Nat}(hd:a.eval d= we dp dLen dCap)(hs:a.eval s= we sp sLen sCap){elem:aS}(hu:P.underlying dT=some (.slice elem))(hsz:(P.info? elem).map (·.size)=some 1){off:Nat}{t:aS}(hg:Bk w g t vs)(hsrc:Rv w 1 sp sLen sCap us)(hpos:0<dLen→dp=some ⟨g,off,none⟩)(hfit:off+dLen≤vs.length)(h1:∀v∈us,v.oneCell'=true)(h:∀w',Bk w' g t (splice vs off (us.take dLen))→Upd g w w'→wpList P ops Q rest (a.put o.dst (goInt (min sLen dLen:Nat))) w'):wpList P ops Q (o::rest) a w:=by
 have f:us.length=sLen:=by simpa using hsrc.len
 have hl:(us.take dLen).length=Nat.min sLen dLen:=by rw [dH,f,Nat.min_comm]
 by_cases h0:Nat.min sLen dLen=0
 ·refine wpList_copy_nothing hgd d s dT sT ho elem hu hsz dp sp dLen dCap sLen sCap hd hs h0 ?_
  have e:us.take dLen= []:=uD (by omega)
  have:=h w (by rw [e];simpa [splice] using hg) (Upd.refl g w)
  rwa [show (min sLen dLen:Nat)=0 from h0] at this
 ·have h0':¬min sLen dLen=0:=h0
  have q:0<dLen:=by omega
  obtain⟨ad,rfl,_⟩:=hsrc.get 0 (by omega)
  obtain rfl:=hpos q
  refine wpList_copy_own hgd d s dT sT ho elem hu hsz g off dLen dCap ad sLen sCap hd hs vs.toArray t hg (us.take dLen) hl ?_ ?_ (fun v p=>h1 v (qG p)) ?_
  ·intro j v p
   have r:j<(us.take dLen).length:=(gY.1 p).1
   have hj':j<min sLen dLen:=by rw [hl] at r;exact r
   obtain⟨a',ha',D⟩:=hsrc.get j (by omega)
   cases ha'
   rw [D,←p,kY,if_pos (by omega),bK,cC (by omega)]
   rfl
  ·simp only [List.size_toArray]
   have:(us.take dLen).length≤dLen:=by rw [dH];omega
   omega
  ·have h':=h
   rw [show min sLen dLen=(us.take dLen).length from hl.symm] at h'
   refine h' _ ?_ ((Upd.refl g w).setRow _)
   show _=_
   simpa [splice] using setRow_heap w g _ _ t _ hg
structure UpdO (A:Option aB)(w w':a6):Prop where
 by_:w.grownBy w' (A.map (·.block))
theorem UpdO.ext {a:a6}(h:UpdO A w w')(e:Ext a w)(hA:∀p,A=some p→a.heap.size≤p.block):Ext a w':=
 e.grown h.by_ (fun k f=>by cases A with | none=>cases f | some p=>cases f;exact hA p J)
theorem UpdO.heap (h:UpdO A w w'){o:Obj}(hc:w.heap[k]?=some o)(hne:∀p,A=some p→p.block≠k):w'.heap[k]?=some o:=
 (h.by_.block k (qL.1 hc).1 (fun e=>by cases A with | none=>cases e | some p=>cases e;exact hne p J J)).trans hc
theorem UpdO.size (h:UpdO A w w'):w.heap.size≤w'.heap.size:=h.by_.size
theorem Bk.updO {t:aS}(h:Bk w g t vs)(e:UpdO A w w')(hne:∀p,A=some p→p.block≠g):Bk w' g t vs:=e.heap h hne
theorem Own.updO {t:aS}(h:Own w base t s B n cap vs)(e:UpdO A w w')(hne:∀p q,A=some p→B=some q→p.block≠q.block):Own w' base t s B n cap vs:=by
 rcases h with h | ⟨g,cs,f,hb,D,r⟩
 ·exact cH h
 ·exact cO ⟨g,cs,f,hb,D.updO e (fun p o=>hne p _ o f),r⟩
theorem Own.row {t:aS}(h:Own w base t s A n cap vs):w.ownsRow base t s (we A n cap) n vs:=by
 rcases h with⟨rfl,rfl,rfl,rfl⟩ | ⟨g,cs,rfl,hb,o,hn,e,hl,rfl⟩
 ·exact⟨by simp,cH ⟨rfl,rfl⟩⟩
 ·have f:n*s≤cap*s:=eI s hn
  exact⟨by rw [dH];omega,cO ⟨g,cap,cs.toArray,rfl,hb,o,hn,e,by simpa using hl,by simp⟩⟩
theorem Own.of_row {t:aS}(h:w.ownsRow base t s v n vs):∃A cap,v= we A n cap∧Own w base t s A n cap vs:=by
 obtain⟨hl,h⟩:=h
 rcases h with⟨rfl,rfl⟩ | ⟨g,cap,cur,rfl,hb,f,hn,e,hs,ht⟩
 ·exact⟨none,0,rfl,cH ⟨rfl,rfl,rfl,uD (by simpa using hl)⟩⟩
 ·exact⟨_,_,rfl,cO ⟨g,cur.toList,rfl,hb,by unfold Bk;simpa using f,hn,e,by simpa using hs,ht⟩⟩
theorem C7 (A:Option aB)(n cap:Nat):(Value.slice A n cap).ownBlock=A.map (·.block):=by cases A <;> rfl
theorem GQ (w:a6)(base:Nat)(t ty e:aS)(i:TypeInfo)(size:Nat)(ht:P.underlying t=some (.slice e))(hi:P.info? e=some i)(v:aM)(n:Nat)(xs:List aM)(hown:w.ownsRow base e size v n xs)(c:Nat):(qK #[t,t] ty #[v,we none 0 c]).run P w= .ok v w:=by
 rcases hown.2 with⟨rfl,rfl⟩ | ⟨g,cap,cur,rfl,_,_,f,_⟩
 ·simp [qK,m8 ht,sizeOf,typeInfo,hi,Builtin.lenOf,NE]
 ·simp [qK,m8 ht,sizeOf,typeInfo,hi,Builtin.lenOf,NE,f,storeCells]
theorem F1 {Q:dI→Act→a6→Prop}(hgd:o.guard=none)(s x:cN)(t:aS)(ho:o.op= .call {callee:= .builtin .append,args:= #[s,x],argTypes:= #[t,t]}){c:Nat}(hs:a.eval s= we A n cap)(hx:a.eval x= we S m c){size:Nat}(ht:P.underlying t=some (.slice e))(hinfo:(P.info? e).map (fun i=>(i.zero,i.size,i.bytes))=some (some z,size,bytes))(hzs:z.cells.size=size)(hsz:0<size){news:List aM}(hown:Own w base e size A n cap vs)(hsrc:Rv w size S m c news)(h1:∀u∈news,u.oneCell'=true)(hbytes:(n+m)*bytes≤140737488355328)(h63:n+m≤maxLen)(hbase:base≤w.heap.size)(h:∀A' cap' w',Own w' base e size A' (n+m) cap' (vs++news)→UpdO A w w'→(A'.map (·.block)=A.map (·.block)∨A'.map (·.block)=some w.heap.size)→
   wpList P ops Q rest (a.put o.dst (we A' (n+m) cap')) w'):wpList P ops Q (o::rest) a w:=by
 obtain⟨i,hi,f,p,q⟩:=info_parts hinfo
 cases S with
 | none=>
  have L:m=0:=by
   rcases jQ m with h0 | h0
   ·exact h0
   ·obtain⟨ad,h,_⟩:=hsrc.get 0 (iL h0 hsz)
    cases h
  subst L
  have hn:news= []:=uD (by simpa using hsrc.len)
  subst hn
  refine zY hgd fun K H=>?_
  have hr:=GQ (P:=P) w base t o.type e i size ht hi (we A n cap) n vs hown.row c
  unfold mA execOp
  simp only [ho,resolve,invoke,builtin,cE,gT,eY,sL,jZ,kX,hs,hx,hr]
  exact H _ _ (h A cap w (by simpa using hown) ⟨EF _ _⟩ (cH J))
 | some ad=>
  refine wpList_append_own_at w hgd s x t ho base e i z size bytes ht hi f p q hzs hsz (we A n cap) n vs hs hown.row ad m c news hx hsrc.len ?_ h1 h63 hbytes hbase ?_
  ·intro j u E
   have D:j<news.length:=(gY.1 E).1
   obtain⟨a',ha',I⟩:=hsrc.get j (by rw [←hsrc.len];exact D)
   cases ha'
   rw [I,←E,bK,cC D]
   rfl
  ·intro v' w' h2 r _ F
   obtain⟨A',cap',rfl,G⟩:=Own.of_row h2
   rw [C7,C7] at F
   rw [C7] at r
   exact h A' cap' w' G ⟨r⟩ F
theorem Rv.one (w:a6)(t:aS)(v:aM):Rv (w.alloc (.cells #[v] t)) 1 (some ⟨w.heap.size,0,none⟩) 1 1 [v]:=by
 have h:=Bk.new w t [v]
 exact h.rv (o:=0) (n:=1) (cap:=1) (aZ _) (by simp) (by rw [eG];omega)
theorem zP (xs:List Nat):∀v∈xs.map bF,v.oneCell'=true:=by
 intro v e
 obtain⟨x,_,rfl⟩:=List.mem_map.1 e
 rfl
theorem BE (xs ys:List Nat)(o:Nat):splice (xs.map bF) o (ys.map bF)=(splice xs o ys).map bF:=by
 simp [splice,kW,uC]
theorem Q6 {α:Type}(xs ys:List α)(h:ys.length=xs.length):splice xs 0 ys=ys:=by
 simp [splice,h]
theorem j7 (n:Nat):cJ n (dP .u64 0)=(cJ n 0).map bF:=by rw [List.map_replicate];rfl
abbrev Fr:=List (Nat×aM)
def look:Fr→Nat→Option aM
 | [],_=>none
 | (j,v)::l,i=>bif oX j i then some v else look l i
structure Rp (n:Nat)(l:Fr)(a:Act):Prop where
 size:a.tmps.size=n
 nod:a.defers= []
 val:∀i v,look l i=some v→a.tmps.getD i undef=v
def bV (l:Fr):cN→Option aM
 | .tmp i=>look l i
 | .const v=>some v
 | .global g=>some (.pointer (some ⟨g,0,none⟩))
 | .func f=>some (.func (.func f) #[] #[])
def rho (l:Fr)(x:cN):aM:=(bV l x).getD undef
theorem Rp.ev {l:Fr}(h:Rp n l a){x:cN}(hx:bV l x=some v):a.eval x=v:=by
 cases x with
 | tmp i=>exact h.val i v hx
 | const u=>exact m9 hx
 | global g=>exact m9 hx
 | func f=>exact m9 hx
theorem Rp.rho {l:Fr}(h:Rp n l a){x:cN}(hx:(bV l x).isSome=true):a.eval x=rho l x:=by
 obtain⟨v,e⟩:=Option.isSome_iff_exists.1 hx
 rw [h.ev e,Go.Proofs.YtkepckmdjncehaaGreatDoor.rho,e];rfl
theorem Rp.put {l:Fr}(h:Rp n l a)(hd:d<n)(v:aM):Rp n ((d,v)::l) (a.put (some d) v):=by
 refine⟨by simp [nX,h.size],by simp [nX,h.nod],fun i u hi=>?_⟩
 simp only [look] at hi
 have hs:d<a.tmps.size:=by rw [h.size];exact hd
 by_cases e:d=i
 ·subst e
  rw [Nat.beq_refl] at hi
  cases hi
  simp [nX,hs]
 ·have hb:oX d i=false:=by
   cases hh:oX d i with
   | false=>rfl
   | true=>exact absurd (sJ hh) e
  rw [hb] at hi
  have:=h.val i u hi
  simp only [nX,pB] at this⊢
  rwa [EM e]
def Keeps (l:Fr):Fr→Prop
 | []=>True
 | (i,v)::r=>look l i=some v∧Keeps l r
theorem Keeps.look {l:Fr}:∀{l':Fr},Keeps l l'→∀i v,look l' i=some v→look l i=some v
 | [],_,i,v,h=>by cases h
 | (j,u)::r,hk,i,v,h=>by
  simp only [Go.Proofs.YtkepckmdjncehaaGreatDoor.look] at h
  cases hb:oX j i with
  | true=>
   rw [hb] at h
   have e:=sJ hb
   subst e
   cases h
   exact hk.1
  | false=>
   rw [hb] at h
   exact hk.2.look i v h
theorem Rp.keep {l l':Fr}(h:Rp n l a)(hk:Keeps l l'):Rp n l' a:=⟨h.size,h.nod,fun i v hi=>h.val i v (hk.look i v hi)⟩
section
variable {P:bW}{Q:dI→Act→a6→Prop}{n:Nat}{l:Fr}{w:a6}
def cw (P:bW)(Q:dI→Act→a6→Prop)(n:Nat)(c:Code)(l:Fr)(w:a6):Prop:=∀a,Rp n l a→c.wp P Q a w
def wl (P:bW)(ops:Array bD)(Q:dI→Act→a6→Prop)(n:Nat)(rest:List bD)(l:Fr)(w:a6):Prop:=∀a,Rp n l a→wpList P ops Q rest a w
def eo (Q:dI→Act→a6→Prop)(e:dI)(n:Nat)(l:Fr)(w:a6):Prop:=∀a,Rp n l a→Q e a w
theorem bG (l':Fr)(hk:Keeps l l')(h:cw P Q n c l' w):cw P Q n c l w:=fun a e=>h a (e.keep hk)
theorem gG {e:dI}(l':Fr)(hk:Keeps l l')(h:eo Q e n l' w):eo Q e n l w:=fun a f=>h a (f.keep hk)
theorem aD {x y:Code}(h:cw P (Exit.then (fun a w=>y.wp P Q a w) Q) n x l w):cw P Q n (.seq x y) l w:=fun a e=>wp_seq (h a e)
theorem aF (h:wl P ol.toArray Q n ol l w):cw P Q n (.region id ol.toArray false) l w:=fun a e=>wp_region_lit (h a e)
theorem aX (h:eo Q .normal n l w):wl P ops Q n [] l w:=fun a e=>wpList_nil (h a e)
theorem aO {y:Code}(h:cw P Q n y l w):eo (Exit.then (fun a w=>y.wp P Q a w) Q) .normal n l w:=h
theorem aY (h:eo Q .normal n l w):cw P Q n .skip l w:=fun a e=>wp_skip (h a e)
theorem d4 (h:eo Q (.exit i) n l w):cw P Q n (.exit i) l w:=fun a e=>wp_exit (h a e)
theorem aV (h:eo Q .ret n l w):cw P Q n .ret l w:=fun a e=>wp_ret (h a e)
theorem bO (h:cw P (sN i Q) n c l w):cw P Q n (.block i c) l w:=fun a e=>wp_block (h a e)
theorem aW {c:cN}{x y:Code}(hc:bV l c=some (AI))(h:cw P Q n x l w):cw P Q n (.cond c x y) l w:=fun a e=>wp_cond_true (e.ev hc) (h a e)
theorem aQ {c:cN}{x y:Code}(hc:bV l c=some (AS))(h:cw P Q n y l w):cw P Q n (.cond c x y) l w:=fun a e=>wp_cond_false (e.ev hc) (h a e)
theorem cZ (h:eo Q .normal n l w):eo (sN i Q) (.exit i) n l w:=fun a e=>by simp only [sN,if_true];exact h a e
theorem rR (h:eo Q (.exit j) n l w)(hne:j≠i:=by decide):eo (sN i Q) (.exit j) n l w:=fun a e=>by simp only [sN,if_neg hne];exact h a e
theorem fK (h:eo Q .ret n l w):eo (sN i Q) .ret n l w:=h
theorem bQ (h:eo Q .normal n l w):eo (sN i Q) .normal n l w:=h
def MW {T:Type}(n:Nat)(F:T→Fr)(W:T→a6)(H:T→Prop)(Q:dI→Act→a6→Prop):dI→Act→a6→Prop
 | .normal,a,w=>∃t,H t∧W t=w∧Rp n (F t) a
 | e,a,w=>Q e a w
theorem dO {F:T→Fr}{W:T→a6}{H:T→Prop}(t:T)(hH:H t)(hW:W t=w)(hk:Keeps l (F t)):eo (MW n F W H Q) .normal n l w:=fun _ e=>⟨t,hH,hW,e.keep hk⟩
theorem rU (F:T→Fr)(W:T→a6)(H:T→Prop){x y:Code}(hx:cw P (MW n F W H Q) n x l w)(hy:∀t,H t→cw P Q n y (F t) (W t)):cw P Q n (.seq x y) l w:=
 aD fun a f=>EJ (fun e a' w' h=>by
  cases e with
  | normal=>obtain⟨t,o,rfl,hr⟩:=h;exact hy t o a' hr
  | _=>exact h) (hx a f)
def zU {T:Type}(n:Nat)(F:T→Fr)(W:T→a6)(H:T→Prop)(m:T→Nat)(k:Nat)(Q:dI→Act→a6→Prop):dI→Act→a6→Prop
 | .normal,a,w=>∃t,H t∧m t<k∧W t=w∧Rp n (F t) a
 | e,a,w=>Q e a w
theorem cM {F:T→Fr}{W:T→a6}{H:T→Prop}{m:T→Nat}(t:T)(hH:H t)(hm:m t<k)(hW:W t=w)(hk:Keeps l (F t)):eo (zU n F W H m k Q) .normal n l w:=fun _ e=>⟨t,hH,hm,hW,e.keep hk⟩
theorem d8 (F:T→Fr)(W:T→a6)(H:T→Prop)(m:T→Nat)(t0:T)(h0:H t0)(hW:W t0=w)(hk:Keeps l (F t0))(round:∀t,H t→cw P (zU n F W H m (m t) Q) n c (F t) (W t)):cw P Q n (.loop c) l w:=by
 classical
 intro a E
 let S:Act→a6→Nat→Prop:=fun a w k=>∃t,H t∧m t=k∧W t=w∧Rp n (F t) a
 let I:Act→a6→Prop:=fun a w=>∃k,S a w k
 have f:∀a w,I a w→∃k,S a w k∧∀j,S a w j→k≤j:=by
  intro a w ⟨k,hk⟩
  induction k using sG with
  | ind k ih=>
   by_cases hs:∃j,S a w j∧j<k
   ·obtain⟨j,p,o⟩:=hs
    exact ih j o p
   ·exact⟨k,hk,fun j p=>oW fun o=>hs ⟨j,p,o⟩⟩
 let μ:Act→a6→Nat:=fun a w=>if h:I a w then wP (f a w h) else 0
 refine wp_loop I μ ⟨m t0,t0,h0,rfl,hW,E.keep hk⟩ ?_
 intro a w r
 have hμ:μ a w=wP (f a w r):=dif_pos r
 obtain⟨D,q⟩:=EK (f a w r)
 rw [←hμ] at D q
 obtain⟨t,G,_,rfl,hr⟩:=D
 refine EJ ?_ (round t G a hr)
 intro e a' w' h
 cases e with
 | normal=>
  obtain⟨t',hH',hm',hW',hr'⟩:=h
  have hI':I a' w':=⟨m t',t',hH',rfl,hW',hr'⟩
  refine⟨hI',?_⟩
  have hμ':μ a' w'=wP (f a' w' hI'):=dif_pos hI'
  have:=(EK (f a' w' hI')).2 (m t') ⟨t',hH',rfl,hW',hr'⟩
  omega
 | _=>exact h
theorem bR {K:Act→a6→Prop}(h:eo Q .ret n l w):eo (Exit.then K Q) .ret n l w:=h
theorem cU {K:Act→a6→Prop}(h:eo Q (.exit i) n l w):eo (Exit.then K Q) (.exit i) n l w:=h
theorem m5 {F:T→Fr}{W:T→a6}{H:T→Prop}{m:T→Nat}(h:eo Q .ret n l w):eo (zU n F W H m k Q) .ret n l w:=h
theorem cY {F:T→Fr}{W:T→a6}{H:T→Prop}{m:T→Nat}(h:eo Q (.exit i) n l w):eo (zU n F W H m k Q) (.exit i) n l w:=h
theorem cR (l':Fr)(w':a6)(hw:w=w')(hk:Keeps l l')(h:cw P Q n c l' w'):cw P Q n c l w:=by subst hw;exact bG l' hk h
def zJ:List aM→Nat→Fr
 | [],_=> []
 | v::r,i=>(i,v)::zJ r (i+1)
theorem JF:∀(args:List aM) (k i:Nat) (v:aM),look (zJ args k) i=some v→k≤i∧args[i-k]?=some v
 | [],k,i,v,h=>by cases h
 | u::r,k,i,v,h=>by
  simp only [zJ,look] at h
  cases hb:oX k i with
  | true=>
   rw [hb] at h
   have e:=sJ hb
   subst e
   cases h
   simp
  | false=>
   rw [hb] at h
   obtain⟨h1,h2⟩:=JF r (k+1) i v h
   refine⟨by omega,?_⟩
   have:i-k=(i-(k+1))+1:=by omega
   rw [this];simpa using h2
theorem bN {R:dL→a6→Prop}(hf:P.funcs[f]?=some fn)(hb:fn.body=some c)(hn:fn.ntmps=n)(hle:args.length≤n)(h:cw P (bodyPost P fn R) n c (zJ args 0) w):aP P f args.toArray w R:=by
 refine calls_of_wp hf hb (h _ ⟨?_,rfl,fun i v hi=>?_⟩)
 ·simp [hn];omega
 ·obtain⟨_,h2⟩:=JF args 0 i v hi
  rw [Nat.sub_zero] at h2
  have e:i<args.length:=(gY.1 h2).1
  simp only [pB]
  rw [Array.getElem?_append_left (by simpa using e)]
  simp [h2]
def sY (P:bW)(w:a6)(l:Fr):List uA→List aM→Prop
 | [],[]=>True
 | .tmp t::r,v::vs=>look l t=some v∧sY P w l r vs
 | .cell s t::r,v::vs=>(∃a,look l s=some (.pointer (some a))∧(loadVar t a).run P w= .ok v w)∧sY P w l r vs
 | _,_=>False
def qX (tmps:Array aM):uA→Sem aM
 | .tmp t=>pure (tmps.getD t undef)
 | .cell s t=>do loadVar t (←asAddr (tmps.getD s undef))
theorem BQ {a:Act}(ha:Rp n l a):∀(rl:List uA) (vs:List aM),sY P w l rl vs→(rl.mapM (qX a.tmps)).run P w= .ok vs w
 | [],[],_=>rfl
 | [],_::_,h=>by cases h
 | .tmp _::_,[],h=>by cases h
 | .cell _ _::_,[],h=>by cases h
 | .tmp t::rl,v::vs,h=>by
  obtain⟨h1,h2⟩:=h
  have f:(qX a.tmps (.tmp t)).run P w= .ok v w:=by
   show (Sem.pure (a.tmps.getD t undef)).run P w=_
   rw [ha.val t v h1];rfl
  rw [List.mapM_cons]
  simp only [cE,f,eY,BQ ha rl vs h2,gT]
 | .cell s t::rl,v::vs,h=>by
  obtain⟨⟨p,h1,o⟩,h2⟩:=h
  have f:(qX a.tmps (.cell s t)).run P w= .ok v w:=by
   have e:(do loadVar t (←asAddr (a.tmps.getD s undef)):Sem aM).run P w= .ok v w:=by
    rw [ha.val s _ h1];simpa [asAddr] using o
   exact e
  rw [List.mapM_cons]
  simp only [cE,f,eY,BQ ha rl vs h2,gT]
def BV:List aM→aM
 | [v]=>v
 | vs=> .tuple vs.toArray
theorem GL (hr:fn.results=rl.toArray)(ha:Rp n l a)(h:sY P w l rl vs):(results fn a.tmps).run P w= .ok (BV vs) w:=by
 have h1:=BQ ha rl vs h
 have e:results fn a.tmps=(do let vs←fn.results.mapM (qX a.tmps);pure (if h:vs.size=1 then vs[0] else .tuple vs)):=rfl
 have o:(fn.results.mapM (qX a.tmps)).run P w= .ok vs.toArray w:=by
  rw [hr,List.mapM_toArray]
  have f:(List.toArray<$>rl.mapM (qX a.tmps):Sem (Array aM))=(rl.mapM (qX a.tmps)>>=fun x=>pure x.toArray):=by rw [bind_pure_comp]
  rw [f]
  simp only [cE,h1,eY,gT]
 rw [e]
 simp only [cE,o,eY,gT]
 match vs with
 | []=>rfl
 | [v]=>rfl
 | u::v::r=>rfl
theorem aU {R:dL→a6→Prop}(vs:List aM)(hr:fn.results=rl.toArray)(h:sY P w l rl vs)(hR:R (.returned (BV vs)) w):eo (bodyPost P fn R) .ret n l w:=
 fun _ e=>fO (GL hr e h) e.nod hR
theorem tO {R:dL→a6→Prop}(vs:List aM)(hr:fn.results=rl.toArray)(h:sY P w l rl vs)(hR:R (.returned (BV vs)) w):eo (bodyPost P fn R) .normal n l w:=
 fun _ e=>bodyPost_end (GL hr e h) e.nod hR
section ops
variable {ops:Array bD}{rest:List bD}{d:Nat}{op:Op}{ty:aS}{pos:String}{af:Array Edge}
def dB (ops:Array bD)(l:Fr):Option (Nat×Bool)→Option Bool
 | none=>some true
 | some (g,b)=>
  match (ops[g]?).bind (·.dst) with
  | some c=>
   match look l c with
   | some (.bool x)=>some (x==b)
   | some (.tuple _)=>some false
   | _=>none
  | none=>none
theorem B2 {r:Bool}(h:dB ops l gd=some r)(ha:Rp n l a):qA ⟨dst,op,ty,pos,af,gd⟩ (yielded ops a.tmps)=r:=by
 cases gd with
 | none=>exact m9 h
 | some p=>
  obtain⟨g,b⟩:=p
  simp only [dB] at h
  simp only [qA]
  cases hc:(ops[g]?).bind (·.dst) with
  | none=>rw [hc] at h;cases h
  | some c=>
   rw [hc] at h
   simp only at h
   have f:yielded ops a.tmps g=match a.tmps[c]? with | some (.bool b)=>some b | _=>none:=by
    unfold yielded;rw [hc];rfl
   cases hl:look l c with
   | none=>rw [hl] at h;cases h
   | some u=>
    rw [hl] at h
    have e:=ha.val c u hl
    rw [pB] at e
    cases u with
    | bool x=>
     simp only [eB] at h
     cases hx:a.tmps[c]? with
     | none=>rw [hx] at e;cases e
     | some v=>
      rw [hx] at e
      simp only [oU] at e
      subst e
      rw [f,hx,←h]
      cases x <;> cases b <;> rfl
    | tuple vs=>
     simp only [eB] at h
     cases hx:a.tmps[c]? with
     | none=>rw [f,hx,←h];rfl
     | some v=>
      rw [hx] at e
      simp only [oU] at e
      subst e
      rw [f,hx,←h];rfl
    | _=>cases h
variable {gd:Option (Nat×Bool)}
theorem AX (hw:dB ops l gd=some true)(ha:Rp n l a)(h:∀K:Act→a6→Prop,(∀a w,wpList P ops Q rest a w→K a w)→mA P ⟨dst,op,ty,pos,af,gd⟩ a w K Q):wpList P ops Q (⟨dst,op,ty,pos,af,gd⟩::rest) a w:=
 wpList_step fun K e=>by rw [B2 hw ha];exact h K e
theorem O0 (hw:dB ops l gd=some false)(hn:d<n)(h:wl P ops Q n rest ((d,undef)::l) w):wl P ops Q n (⟨some d,op,ty,pos,af,gd⟩::rest) l w:=fun a e=>
 wpList_step fun K f=>by
  rw [B2 hw e]
  exact f _ _ (h _ (e.put hn undef))
theorem fW (hw:dB ops l gd=some true)(hn:d<n)(hr:∀a,Rp n l a→(execOp a.eval ⟨some d,op,ty,pos,af,gd⟩).run P w= .ok (.value v) w')(h:wl P ops Q n rest ((d,v)::l) w'):wl P ops Q n (⟨some d,op,ty,pos,af,gd⟩::rest) l w:=fun a e=>by
 refine AX hw e fun K f=>?_
 unfold mA
 rw [hr a e]
 exact f _ _ (h _ (e.put hn v))
theorem NX (hw:dB ops l gd=some true)(hr:∀a,Rp n l a→(execOp a.eval ⟨none,op,ty,pos,af,gd⟩).run P w= .ok .skip w')(h:wl P ops Q n rest l w'):wl P ops Q n (⟨none,op,ty,pos,af,gd⟩::rest) l w:=fun a e=>by
 refine AX hw e fun K f=>?_
 unfold mA
 rw [hr a e]
 exact f _ _ (h _ e)
def xU:Op→Bool
 | .select .. =>false
 | _=>true
def m4 (l:Fr)(op:Op):Bool:=xU op&&op.operands.toList.all fun x=>(bV l x).isSome
theorem vQ {g:Option (Nat×Bool)}(hk:m4 l op=true)(ha:Rp n l a):execOp a.eval ⟨dst,op,ty,pos,af,g⟩=execOp (rho l) ⟨dst,op,ty,pos,af,g⟩:=by
 simp only [m4,eK,fV] at hk
 refine execOp_congr _ (fun cs b e=>?_) (fun x hx=>ha.rho (hk.2 x (by simpa using hx)))
 simp only at e
 rw [e] at hk
 exact absurd hk.1 (by simp [xU])
theorem F5 (hw:dB ops l gd=some true)(hk:m4 l op=true)(hn:d<n)(hr:(execOp (rho l) ⟨some d,op,ty,pos,af,gd⟩).run P w= .ok (.value v) w)(h:wl P ops Q n rest ((d,v)::l) w):wl P ops Q n (⟨some d,op,ty,pos,af,gd⟩::rest) l w:=
 fW hw hn (fun a e=>by rw [vQ hk e];exact hr) h
theorem O5 {x:cN}(hw:dB ops l gd=some true)(hx:bV l x=some v)(hn:d<n)(h:wl P ops Q n rest ((d,v)::l) w):wl P ops Q n (⟨some d,.move x,ty,pos,af,gd⟩::rest) l w:=
 fW hw hn (fun a e=>by simp only [execOp,e.ev hx];rfl) h
theorem O9 {x:cN}(hw:dB ops l gd=some true)(hx:bV l x=some v)(hn:d<n)(h:wl P ops Q n rest ((d,v)::l) w):wl P ops Q n (⟨some d,.assign x,ty,pos,af,gd⟩::rest) l w:=
 fW hw hn (fun a e=>by simp only [execOp,e.ev hx];rfl) h
theorem bB {x:cN}{t:aS}(hw:dB ops l gd=some true)(hx:bV l x=some (.pointer (some p)))(hl:(loadVar t p).run P w= .ok v w)(h:wl P ops Q n rest ((d,v)::l) w)(hn:d<n:=by decide):wl P ops Q n (⟨some d,.load t x,ty,pos,af,gd⟩::rest) l w:=
 fW hw hn (fun a f=>by
  have e:(AL t (a.eval x)).run P w= .ok v w:=by rw [f.ev hx];exact hl
  show ((AL t (a.eval x)>>=fun r=>pure (fZ r):Sem fI)).run P w=_
  rw [cE,e];rfl) h
theorem AW {x y:cN}{t:aS}(hw:dB ops l gd=some true)(hx:bV l x=some (.pointer (some p)))(hy:bV l y=some v)(hs:(storeVar t p v).run P w= .ok () w')(h:wl P ops Q n rest l w'):wl P ops Q n (⟨none,.store t x y,ty,pos,af,gd⟩::rest) l w:=
 NX hw (fun a f=>by
  have e:(AK t (a.eval x) (a.eval y)).run P w= .ok () w':=by rw [f.ev hx,f.ev hy];exact hs
  show ((AK t (a.eval x) (a.eval y)>>=fun _=>pure Next.skip:Sem fI)).run P w=_
  rw [cE,e];rfl) h
def cG:j3→Int→Int→Option Bool
 | .eql,a,b=>some (a==b)
 | .neq,a,b=>some (a != b)
 | .lss,a,b=>some (decide (a<b))
 | .leq,a,b=>some (decide (a≤b))
 | .gtr,a,b=>some (decide (a>b))
 | .geq,a,b=>some (decide (a≥b))
 | _,_,_=>none
theorem GP {o:j3}{t:aS}{k:iN}{a b:Int}{c:Bool}(hc:cG o a b=some c){x y:cN}:((do eqGuard o t x y (.int k a) (.int k b);binOp o t (.int k a) (.int k b)):Sem aM).run P w= .ok (.bool c) w:=by
 cases o <;> simp only [cG,eB,reduceCtorEq] at hc <;> subst hc <;> simp [eqGuard,binOp,Op.intCmp]
theorem aI (hw:dB ops l gd=some true){o:j3}{t:aS}{x y:cN}{k:iN}{a b:Int}(hx:bV l x=some (.int k a))(hy:bV l y=some (.int k b))(c:Bool)(hc:cG o a b=some c)(h:wl P ops Q n rest ((d,.bool c)::l) w)(hn:d<n:=by decide):wl P ops Q n (⟨some d,.binOp o t x y t',ty,pos,af,gd⟩::rest) l w:=
 fW hw hn (fun a' f=>by
  have e:((do eqGuard o t x y (a'.eval x) (a'.eval y);binOp o t (a'.eval x) (a'.eval y)):Sem aM).run P w= .ok (.bool c) w:=by
   rw [f.ev hx,f.ev hy];exact GP hc
  show ((((do eqGuard o t x y (a'.eval x) (a'.eval y);binOp o t (a'.eval x) (a'.eval y)):Sem aM)>>=fun r=>pure (fZ r)):Sem fI).run P w=_
  rw [cE,e];rfl) h
def fN:j3→iN→Int→Int→Option Int
 | .add,k,a,b=>some (k.wrap (a+b))
 | .sub,k,a,b=>some (k.wrap (a-b))
 | .mul,k,a,b=>some (k.wrap (a*b))
 | .quo,k,a,b=>if b=0 then none else some (k.wrap (a.tdiv b))
 | .rem,_,a,b=>if b=0 then none else some (a.tmod b)
 | _,_,_,_=>none
theorem BT {o:j3}{t:aS}{k:iN}{a b c:Int}(hc:fN o k a b=some c){x y:cN}:((do eqGuard o t x y (.int k a) (.int k b);binOp o t (.int k a) (.int k b)):Sem aM).run P w= .ok (.int k c) w:=by
 cases o <;> simp only [fN,eB,reduceCtorEq] at hc
 case add=>subst hc;simp [eqGuard,binOp,EG]
 case sub=>subst hc;simp [eqGuard,binOp,EG]
 case mul=>subst hc;simp [eqGuard,binOp,EG]
 case quo=>
  by_cases hb:b=0
  ·rw [if_pos hb] at hc;cases hc
  ·rw [if_neg hb] at hc;cases hc;simp [eqGuard,binOp,wI,hb]
 case rem=>
  by_cases hb:b=0
  ·rw [if_pos hb] at hc;cases hc
  ·rw [if_neg hb] at hc;cases hc;simp [eqGuard,binOp,wI,hb]
theorem aR (hw:dB ops l gd=some true){o:j3}{t:aS}{x y:cN}{k:iN}{a b:Int}(hx:bV l x=some (.int k a))(hy:bV l y=some (.int k b))(c:Int)(hc:fN o k a b=some c)(h:wl P ops Q n rest ((d,.int k c)::l) w)(hn:d<n:=by decide):wl P ops Q n (⟨some d,.binOp o t x y t',ty,pos,af,gd⟩::rest) l w:=
 fW hw hn (fun a' f=>by
  have e:((do eqGuard o t x y (a'.eval x) (a'.eval y);binOp o t (a'.eval x) (a'.eval y)):Sem aM).run P w= .ok (.int k c) w:=by
   rw [f.ev hx,f.ev hy];exact BT hc
  show ((((do eqGuard o t x y (a'.eval x) (a'.eval y);binOp o t (a'.eval x) (a'.eval y)):Sem aM)>>=fun r=>pure (fZ r)):Sem fI).run P w=_
  rw [cE,e];rfl) h
structure NewBk (w w':a6)(g:Nat)(t:aS)(vs:List aM):Prop where
 at_:w.heap.size=g
 size:w'.heap.size=g+1
 bk:Bk w' g t vs
 ext:Ext w w'
theorem NewBk.mk' (w:a6)(t:aS)(vs:List aM):NewBk w (w.alloc (.cells vs.toArray t)) w.heap.size t vs:=⟨rfl,by simp,Bk.new w t vs,(Ext.refl w).alloc _⟩
theorem BR {t:aS}(hv:v.cells=vs.toArray):(newVar t v).run P w= .ok ⟨w.heap.size,0,none⟩ (w.alloc (.cells vs.toArray t)):=by
 unfold newVar newRow newObj
 rw [hv]
 rfl
theorem uI {x:cN}{t:aS}(hw:dB ops l gd=some true)(hx:bV l x=some v)(hv:v.cells=vs.toArray)(hn:d<n)(h:∀g w',NewBk w w' g t vs→wl P ops Q n rest ((d,i5 g 0)::l) w'):wl P ops Q n (⟨some d,.box t x,ty,pos,af,gd⟩::rest) l w:=
 fW hw hn (fun a f=>by
  have e:(Instr.box t (a.eval x)).run P w= .ok (i5 w.heap.size 0) (w.alloc (.cells vs.toArray t)):=by
   rw [f.ev hx]
   show ((newVar t v>>=fun r=>pure (wG (some r)):Sem aM)).run P w=_
   rw [cE,BR hv];rfl
  show ((Instr.box t (a.eval x)>>=fun r=>pure (fZ r):Sem fI)).run P w=_
  rw [cE,e];rfl) (h _ _ (NewBk.mk' w t vs))
theorem iH {t:aS}(hw:dB ops l gd=some true)(hz:∀w,(zeroValue t).run P w= .ok z w)(hv:z.cells=vs.toArray)(h:∀g w',NewBk w w' g t vs→wl P ops Q n rest ((d,i5 g 0)::l) w')(hn:d<n:=by decide):wl P ops Q n (⟨some d,.alloc t,ty,pos,af,gd⟩::rest) l w:=
 fW hw hn (fun a _=>by
  have e:(AM t true (.tuple #[])).run P w= .ok (i5 w.heap.size 0) (w.alloc (.cells vs.toArray t)):=by
   show ((zeroValue t>>=fun z=>(newVar t z>>=fun r=>pure (wG (some r))):Sem aM)).run P w=_
   rw [cE,hz w]
   show ((newVar t z>>=fun r=>pure (wG (some r)):Sem aM)).run P w=_
   rw [cE,BR hv];rfl
  show ((AM t true (.tuple #[])>>=fun r=>pure (fZ r):Sem fI)).run P w=_
  rw [cE,e];rfl) (h _ _ (NewBk.mk' w t vs))
def MS (p:aM→Prop):dL→Prop
 | .returned v=>p v
 | _=>False
theorem dR {p:aM→Prop}(h:p v):MS p (.returned v):=h
theorem dQ {xs:Array cN}{R:dL→a6→Prop}(hw:dB ops l gd=some true)(hk:m4 l (.call {callee:= .value (.func f),args:=xs,argTypes:=ts})=true)(hr:(execOp (rho l) ⟨some d,.call {callee:= .value (.func f),args:=xs,argTypes:=ts},ty,pos,af,gd⟩).run P w= .ok (.enter f vs.toArray) w)(hn:d<n)(hc:aP P f vs.toArray w R)(h:∀e w',R e w'→MS (fun v=>wl P ops Q n rest ((d,v)::l) w') e):wl P ops Q n (⟨some d,.call {callee:= .value (.func f),args:=xs,argTypes:=ts},ty,pos,af,gd⟩::rest) l w:=fun a o=>by
 refine AX hw o fun K p=>?_
 unfold mA
 rw [vQ hk o,hr]
 refine hc.mono fun e w' q=>?_
 have:=h e w' q
 cases e with
 | returned v=>exact p _ _ (this _ (o.put hn v))
 | panicked c=>exact this.elim
 | outgrown=>exact this.elim
end ops
end
def NP (Q:dI→Act→a6→Prop):dI→Act→a6→Prop
 | .panic _,_,_=>False
 | e,a,w=>Q e a w
theorem NP.imp {Q:dI→Act→a6→Prop}:∀e a w,NP Q e a w→Q e a w:=fun e a w h=>by
 cases e <;> first | exact h | exact h.elim
theorem dC {Q:dI→Act→a6→Prop}{l:Fr}(h:eo Q .normal n l w):eo (NP Q) .normal n l w:=h
def iZ (Rs:List (aM→a6→Prop))(i:Nat):aM→a6→Prop:=(Rs[i]?).getD fun _ _=>True
def iI (a:Act):Option Tmp→aM
 | some d=>a.tmps.getD d undef
 | none=>undef
def mN (d:Option Tmp)(v:aM)(l:Fr):Fr:=
 match d with
 | some d=>(d,v)::l
 | none=>l
def cQ (ol:List bD)(j:Nat):Option Tmp:=(ol[j]?).bind (·.dst)
def yG (o:bD)(j:Nat):Bool:=o.after.toList.any fun e=>jN .any e&&e.on==j
theorem VV (h:yG o j=true):∃e∈o.after,jN .any e=true∧e.on=j:=by
 simp only [yG,AJ,eK,beq_iff_eq] at h
 obtain⟨e,he,h1,h2⟩:=h
 exact⟨e,by simpa using he,h1,h2⟩
def Deps (ol:List bD)(Rs:List (aM→a6→Prop))(w0 w1:a6)(k:Fr→Prop):List Nat→Fr→Prop
 | [],acc=>k acc
 | j::ds,acc=>∀v wj,iZ Rs j v wj→Ext w0 wj→Ext wj w1→Deps ol Rs w0 w1 k ds (mN (cQ ol j) v acc)
theorem aC {Rs:List (aM→a6→Prop)}{k:Fr→Prop}{acc:Fr}(h:k acc):Deps ol Rs w0 w1 k [] acc:=h
theorem aT {Rs:List (aM→a6→Prop)}{k:Fr→Prop}{acc:Fr}{R:aM→a6→Prop}(hR:Rs[j]?=some R)(hd:cQ ol j=some d)(h:∀v wj,R v wj→Ext w0 wj→Ext wj w1→Deps ol Rs w0 w1 k ds ((d,v)::acc)):Deps ol Rs w0 w1 k (j::ds) acc:=by
 intro v wj hr e e'
 have f:iZ Rs j=R:=by unfold iZ;rw [hR];rfl
 have o:mN (cQ ol j) v acc=(d,v)::acc:=by rw [hd];rfl
 rw [f] at hr
 rw [o]
 exact h v wj hr e e'
def nQ (w1:a6)(d:Option Tmp)(R:aM→a6→Prop):dI→Act→a6→Prop
 | .normal,a,w=>Ext w1 w∧R (iI a d) w∧a.defers= []
 | _,_,_=>False
theorem aG {l:Fr}{R:aM→a6→Prop}(hv:look l d=some v)(hx:Ext w1 w)(hR:R v w):wl P ops (nQ w1 (some d) R) n [] l w:=
 aX fun a e=>⟨hx,by show R (a.tmps.getD d undef) w;rw [e.val d v hv];exact hR,e.nod⟩
def pZ (w:a6)(v:aM):Prop:=∃g,v= i5 g 0∧w.heap.size≤g
def ED (w:a6)(v:aM):Prop:=∃g,v= i5 g 0∧g<w.heap.size
def zS (Rs:List (aM→a6→Prop)):List Nat→Prop
 | []=>True
 | i::r=>(∀v w,iZ Rs i v w→ED w v)∧zS Rs r
theorem IO {Rs:List (aM→a6→Prop)}:∀{al:List Nat},zS Rs al→∀i∈al,∀v w,iZ Rs i v w→ED w v
 | [],_,i,h=>by cases h
 | j::r,h,i,hi=>by
  rcases mW.1 hi with e | e
  ·subst e;exact h.1
  ·exact IO h.2 i e
def zX (ol:List bD)(al:List Nat)(acc:Fr):Prop:=∀i∈al,∀j∈al,i≠j→∀di dj,cQ ol i=some di→cQ ol j=some dj→∀u,look acc di=some u→look acc dj=some u→False
section
variable (P:bW) (n:Nat) (ol:List bD) (m:Nat) (fl al:List Nat) (Rs:List (aM→a6→Prop)) (l:Fr) (w0:a6)
def wC (i:Nat)(o:bD)(ds:List Nat):Prop:=
 ∀w1,Ext w0 w1→Deps ol Rs w0 w1 (fun acc=>wl P ol.toArray (nQ w1 o.dst (fun v w=>iZ Rs i v w∧(al.contains i=true→pZ w1 v))) n [o] acc w1) ds l
def zW (i:Nat)(o:bD)(ds:List Nat):Prop:=
 ∀w1,Ext w0 w1→Deps ol Rs w0 w1 (fun acc=>∃v,m4 acc o.op=true∧dB ol.toArray acc o.guard=some true∧(∀w,(execOp (rho acc) o).run P w= .ok (.value v) w)∧iZ Rs i v w1) ds l
def nR:List (List Nat)→Nat→Prop
 | [],_=>True
 | ds::dss,i=>(match ol[i]? with | some o=>if fl.contains i then zW P ol Rs l w0 i o ds else wC P n ol al Rs l w0 i o ds | none=>True)∧nR dss (i+1)
end
def cF (rl:List (List Nat))(i:Nat):List Nat:=(rl[i]?).getD []
def yT (n : Nat)(ol : List bD)(m : Nat)(fl : List Nat)(l : Fr)(dss rl : List (List Nat)): Bool :=
  decide (m ≤ ol.length) && dss.length == m && fl.all (fun i => decide (i < m)) &&
  (ol.zipIdx.all fun (o, i) => xU o.op && (o.after.toList.all fun e => !Region.binds .any e || decide (e.on < i)) && ((cF rl i).all fun j => o.after.toList.any fun e => jN .any e && (e.on == j || (cF rl e.on).contains j)) &&
    (if i < m then
      (match o.dst with
       | some d => decide (d < n) && l.all (fun p => p.1 != d) && ol.zipIdx.all (fun (o', j) => j == i || decide (m ≤ j) || o'.dst != some d)
       | none => false) &&
      ((dss[i]?).getD []).all (fun j => (cF rl i).contains j) &&
      (!fl.contains i || ol.zipIdx.all (fun (o', j) => j == i || (cF rl i).contains j || yG o' i || o.apart ol.toArray o'))
     else (gE i).all (fun j => fl.contains j || (cF rl i).contains j)))
structure DrawOk (n:Nat)(ol:List bD)(m:Nat)(fl:List Nat)(l:Fr)(dss rl:List (List Nat)):Prop where
 mle:m≤ol.length
 dlen:dss.length=m
 flt:∀i∈fl,i<m
 sel:∀(i:Nat) (o:bD),ol[i]?=some o→xU o.op=true
 back:∀(i:Nat) (o:bD),ol[i]?=some o→∀e∈o.after,jN .any e=true→e.on<i
 dst:∀(i:Nat) (o:bD),ol[i]?=some o→i<m→∃d,o.dst=some d∧d<n∧(∀p∈l,p.1≠d)∧∀(j:Nat) (o':bD),ol[j]?=some o'→j≠i→j<m→o'.dst≠some d
 reach:∀(i:Nat) (o:bD),ol[i]?=some o→∀j∈cF rl i,∃e∈o.after,jN .any e=true∧(e.on=j∨j∈cF rl e.on)
 deps:∀(i:Nat) (o:bD),ol[i]?=some o→i<m→∀j∈(dss[i]?).getD [],j∈cF rl i
 free:∀(i:Nat) (o:bD),ol[i]?=some o→i∈fl→∀(j:Nat) (o':bD),ol[j]?=some o'→j≠i→j ∉ cF rl i→yG o' i=true∨o.apart ol.toArray o'=true
 tail:∀(i:Nat) (o:bD),ol[i]?=some o→m≤i→∀j,j<i→j∈fl∨j∈cF rl i
theorem rX {α:Type}{l:List α}{p:α×Nat→Bool}(h:l.zipIdx.all p=true)(i:Nat)(x:α)(hx:l[i]?=some x):p (x,i)=true:=by
 rw [fV] at h
 exact h (x,i) (by rw [List.mem_zipIdx_iff_getElem?];simpa using hx)
theorem YJ {l:Fr}{rl:List (List Nat)}(h:yT n ol m fl l dss rl=true):DrawOk n ol m fl l dss rl:=by
 simp only [yT,eK,decide_eq_true_eq,beq_iff_eq] at h
 obtain⟨⟨⟨h1,h2⟩,F⟩,M⟩:=h
 have key:=fun (i:Nat) (o:bD) (f:ol[i]?=some o)=>rX M i o f
 simp only [eK] at key
 refine⟨h1,h2,fun i hi=>by rw [fV] at F;simpa using F i hi,fun i o f=>(key i o f).1.1.1,fun i o f e he hb=>?_,fun i o f hi=>?_,fun i o f j E=>?_,fun i o f hi j E=>?_,fun i o f hi j o' ho' r G=>?_,fun i o f hi j E=>?_⟩
 ·have:=(key i o f).1.1.2
  rw [fV] at this
  have:=this e (by simpa using he)
  simpa [hb] using this
 ·have:=(key i o f).2
  rw [if_pos hi] at this
  simp only [eK] at this
  obtain⟨⟨q,_⟩,_⟩:=this
  cases hd:o.dst with
  | none=>rw [hd] at q;cases q
  | some d=>
   rw [hd] at q
   simp only [eK,decide_eq_true_eq] at q
   obtain⟨⟨D,I⟩,L⟩:=q
   refine⟨d,rfl,D,fun p U=>?_,fun j o' ho' r _ e=>?_⟩
   ·rw [fV] at I
    simpa using I p U
   ·have:=rX L j o' ho'
    simp only [mY,beq_iff_eq,decide_eq_true_eq,bne_iff_ne] at this
    rcases this with (h | h) | h
    ·exact r h
    ·omega
    ·exact h e
 ·have q:=(key i o f).1.2
  rw [fV] at q
  have:=q j E
  rw [AJ] at this
  obtain⟨e,he,D⟩:=this
  simp only [eK,mY,beq_iff_eq,jR] at D
  exact⟨e,by simpa using he,D.1,D.2⟩
 ·have:=(key i o f).2
  rw [if_pos hi] at this
  simp only [eK] at this
  have q:=this.1.2
  rw [fV] at q
  simpa using q j E
 ·have H:i<m:=by rw [fV] at F;simpa using F i hi
  have:=(key i o f).2
  rw [if_pos H] at this
  simp only [eK,mY,AN] at this
  rcases this.2 with q | q
  ·simp [hi] at q
  ·have:=rX q j o' ho'
   simp only [mY,beq_iff_eq,jR] at this
   rcases this with ((h | h) | h) | h
   ·exact absurd h r
   ·exact absurd h G
   ·exact cH h
   ·exact cO h
 ·have:=(key i o f).2
  rw [if_neg (by omega),fV] at this
  have:=this j (by simpa using E)
  simpa using this
section
variable {P:bW}{Q:dI→Act→a6→Prop}{n:Nat}{ol:List bD}{m:Nat}{fl al:List Nat}{Rs:List (aM→a6→Prop)}{l:Fr}{w0:a6}{dss rl:List (List Nat)}
def wD (ol:List bD)(Rs:List (aM→a6→Prop))(w0:a6)(i:Nat)(a:Act)(w:a6):Prop:=∃w1,Ext w0 w1∧Ext w1 w∧iZ Rs i (iI a (cQ ol i)) w1
theorem Deps.weak {w1:a6}{k k':Fr→Prop}(hi:∀acc,k acc→k' acc):∀(ds:List Nat) (acc:Fr),Deps ol Rs w0 w1 k ds acc→Deps ol Rs w0 w1 k' ds acc
 | [],acc,h=>hi acc h
 | _::ds,_,h=>fun v wj h1 h2 h3=>Deps.weak hi ds _ (h v wj h1 h2 h3)
theorem Rp.cons {acc:Fr}(h:Rp n acc a)(hv:a.tmps.getD d undef=v):Rp n ((d,v)::acc) a:=
 ⟨h.size,h.nod,fun i u hi=>by
  simp only [look] at hi
  cases hb:oX d i with
  | true=>
   rw [hb] at hi
   have e:=sJ hb
   subst e
   cases hi
   exact hv
  | false=>rw [hb] at hi;exact h.val i u hi⟩
theorem Deps.apply {w1:a6}{k:Fr→Prop}{a:Act}:∀(ds:List Nat) (acc:Fr),(∀j∈ds,wD ol Rs w0 j a w1)→Deps ol Rs w0 w1 k ds acc→Rp n acc a→∃acc',Rp n acc' a∧k acc'
 | [],acc,_,h,hr=>⟨acc,hr,h⟩
 | j::ds,acc,hf,h,hr=>by
  obtain⟨wj,e1,e2,hR⟩:=hf j (by simp)
  refine Deps.apply ds _ (fun i hi=>hf i (by simp [hi])) (h _ wj hR e1 e2) ?_
  cases hd:cQ ol j with
  | none=>exact hr
  | some d=>exact hr.cons rfl
theorem CE:∀{dss:List (List Nat)}{k:Nat},nR P n ol fl al Rs l w0 dss k→∀(i:Nat) (o:bD),ol[k+i]?=some o→i<dss.length→
  (if fl.contains (k+i) then zW P ol Rs l w0 (k+i) o ((dss[i]?).getD []) else wC P n ol al Rs l w0 (k+i) o ((dss[i]?).getD []))
 | [],_,_,i,_,_,hi=>by simp at hi
 | ds::dss,k,h,0,o,ho,_=>by
  have:=h.1
  rw [show ol[k]?=some o from ho] at this
  simpa using this
 | ds::dss,k,h,i+1,o,ho,hi=>by
  have e:k+(i+1)=k+1+i:=by omega
  have:=CE h.2 i o (by rw [←e];exact ho) (by simpa using hi)
  rw [e]
  simpa using this
theorem AV {K K2:Act→a6→Prop}{Q1 Q2:dI→Act→a6→Prop}(h:o.wp P a w K Q1)(hp:∀c a w,¬Q1 (.panic c) a w)(hl:¬LetsOut Q1)(hd:∀a w,K a w→a.defers= [])(hk:∀v w',K (a.put o.dst v) w'→K2 (a.put o.dst v) w'):o.wp P a w K2 Q2:=by
 unfold mA at*
 generalize (execOp a.eval o).run P w=r at*
 cases r with
 | ok x w'=>
  cases x <;> simp only [kG] at h⊢ <;> first | exact h.elim | skip
  case value v=>exact hk _ _ h
  case skip=>exact hk _ _ h
  case defer d=>
   have:=hd _ _ h
   exfalso
   revert this
   cases o.dst <;> simp [nX]
  case enter f args=>
   refine h.mono fun e w'' he=>?_
   cases e with
   | returned v=>exact hk _ _ he
   | panicked c=>exact (hp _ _ _ he).elim
   | outgrown=>exact (hl he).elim
  case row row args=>exact h.mono fun v w'' he=>hk _ _ he
 | _ x w'=>
  cases x <;> simp only [kG] at h⊢ <;> first | exact h.elim | exact (hp _ _ _ h).elim
theorem nP (ol:List bD)(i:Nat):ol.toArray[i]?=ol[i]?:=by simp
theorem j8:j∈qB .any ol.toArray listed↔
  listed.getD j true=false∧∃o,ol[j]?=some o∧∀e∈o.after,jN .any e=true→listed.getD e.on false=true:=by
 rw [mem_ready,nP]
theorem jC (h:j<listed.size:=by omega):listed.getD j true=listed.getD j false:=by simp [h]
theorem U7 (h:DrawOk n ol m fl l dss rl)(j:Nat)(o:bD)(cs:Array SelectCase)(b:Bool)(ho:ol.toArray[j]?=some o):o.op≠ .select cs b:=by
 intro e
 have:=h.sel j o (by rw [←nP];exact ho)
 rw [e] at this
 cases this
def qO (N:Nat)(listed:Array Bool):Nat:=(gE N).countP fun i=> !listed.getD i false
theorem LM {p q:Nat→Bool}{i:Nat}:∀{L:List Nat},i∈L→(∀j,q j=true→p j=true)→p i=true→q i=false→L.countP q<L.countP p
 | [],h,_,_,_=>by cases h
 | j::L,h,hpq,hp,hq=>by
  have hle:L.countP q≤L.countP p:=List.countP_mono_left fun j _=>hpq j
  by_cases e:i=j
  ·subst e
   rw [AH,AH,hp,hq]
   simp;omega
  ·have hi:i∈L:=by
    rcases mW.1 h with h | h
    ·exact absurd h e
    ·exact h
   have:=LM hi hpq hp hq
   rw [AH,AH]
   cases hqj:q j with
   | true=>rw [hpq j hqj];simp;omega
   | false=>simp only [Bool.false_eq_true,if_false];omega
theorem kJ (hi:i<N)(hs:listed.size=N)(h:listed.getD i false=false):qO N (listed.setIfInBounds i true)<qO N listed:=by
 refine LM (i:=i) (iT.2 hi) (fun j f=>?_) (by simp only [h];rfl) ?_
 ·by_cases e:i=j
  ·subst e;simp [hs,hi] at f
  ·rw [getD_set_ne false e] at f;exact f
 ·simp [hs,hi]
def Closed (ol:List bD)(listed:Array Bool):Prop:=∀(i:Nat) (o:bD),ol[i]?=some o→listed.getD i false=true→∀e∈o.after,jN .any e=true→listed.getD e.on false=true
theorem Closed.set (h:Closed ol listed)(ho:ol[i]?=some o)(hall:∀e∈o.after,jN .any e=true→listed.getD e.on false=true):Closed ol (listed.setIfInBounds i true):=by
 intro k ok f hl e he hb
 refine getD_set_true ?_
 by_cases p:i=k
 ·subst p
  rw [ho] at f
  cases f
  exact hall e he hb
 ·rw [getD_set_ne false p] at hl
  exact h k ok f hl e he hb
theorem Closed.reach (h:Closed ol listed)(hk:DrawOk n ol m fl l dss rl):∀(i:Nat) (o:bD),ol[i]?=some o→(∀e∈o.after,jN .any e=true→listed.getD e.on false=true)→∀j∈cF rl i,listed.getD j false=true:=by
 intro i
 induction i using sG with
 | ind i ih=>
  intro o q f j r
  obtain⟨e,he,hb,h1⟩:=hk.reach i o q j r
  have p:=hk.back i o q e he hb
  rcases h1 with h1 | h1
  ·rw [←h1];exact f e he hb
  ·have hN:e.on<ol.length:=Nat.lt_trans p (gY.1 q).1
   exact ih e.on p _ (cC hN) (h e.on _ (cC hN) (f e he hb)) j h1
theorem FQ (hk:DrawOk n ol m fl l dss rl):∀(fuel k:Nat) (listed:Array Bool) (a:Act) (w:a6),m≤k→k≤ol.length→qO ol.length listed≤fuel→listed.size=ol.length→Closed ol listed→(∀i,i<ol.length→listed.getD i false=decide (i<k))→
  wpList P ol.toArray Q (ol.drop k) a w→wpAny P .any ol.toArray Q fuel listed a w:=by
 intro fuel
 induction fuel with
 | zero=>
  intro k listed a w X M hf hs _ hl h
  have e:k=ol.length:=by
   rcases i7 k ol.length with h1 | h1
   ·have h2:listed.getD k false=false:=by rw [hl k h1];simp
    have:=kJ h1 hs h2;omega
   ·omega
  subst e
  rw [List.drop_length] at h
  refine wpAny_done ?_ h 0
  refine wM.2 fun j H=>?_
  obtain⟨h1,o,f,_⟩:=j8.1 H
  have p:j<ol.length:=(gY.1 f).1
  rw [jC,hl j p] at h1
  simp [p] at h1
 | succ fuel ih=>
  intro k listed a w X M hf hs G hl h
  rcases i7 k ol.length with q | _
  ·obtain⟨o,f⟩:∃o,ol[k]?=some o:=⟨_,cC q⟩
   have E:k∈qB .any ol.toArray listed:=by
    refine j8.2 ⟨?_,o,f,fun e he hb=>?_⟩
    ·rw [jC,hl k q];simp
    ·have:=hk.back k o f e he hb
     rw [hl e.on (by omega)];simpa using this
   refine⟨fun h0=>(by rw [h0] at E;cases E),fun i hi=>?_⟩
   obtain⟨h1,o',ho',D⟩:=j8.1 hi
   have r:i<ol.length:=(gY.1 ho').1
   rw [jC,hl i r] at h1
   have U:k≤i:=by simpa using h1
   have I:i=k:=by
    rcases i7 k i with h2 | h2
    ·rcases hk.tail i o' ho' (by omega) k h2 with L | L
     ·have:=hk.flt k L;omega
     ·have:=G.reach hk i o' ho' D k L
      rw [hl k q] at this
      simp at this
    ·omega
   subst I
   have W:ol.drop i=o::ol.drop (i+1):=by
    rw [nW q]
    congr 1
    rw [cC q] at f
    exact m9 f
   rw [W] at h
   have V:wpOp P ol.toArray Q i (wpList P ol.toArray Q (ol.drop (i+1))) a w:=by
    unfold wpOp
    rw [nP,f]
    unfold wpList at h
    exact h
   refine wpOp_mono (fun a' w' h'=>?_) V
   refine ih (i+1) _ a' w' (by omega) (by omega) (by have:=kJ r hs (by rw [hl i r];simp);omega) (by simpa using hs) (G.set f (by rw [f] at ho';cases ho';exact D)) (fun j H=>?_) h'
   by_cases F:i=j
   ·subst F
    simp [hs,r]
   ·rw [getD_set_ne false F,hl j H]
    congr 1
    simp only [eq_iff_iff]
    omega
  ·have e:k=ol.length:=by omega
   subst e
   rw [List.drop_length] at h
   refine wpAny_done ?_ h _
   refine wM.2 fun j H=>?_
   obtain⟨h1,o,f,_⟩:=j8.1 H
   have p:j<ol.length:=(gY.1 f).1
   rw [jC,hl j p] at h1
   simp [p] at h1
theorem Rp.put_far (h:Rp n l a)(hd:∀p∈l,p.1≠d)(v:aM):Rp n l (a.put (some d) v):=by
 refine⟨by simp [nX,h.size],by simp [nX,h.nod],fun i u hi=>?_⟩
 have f:d≠i:=fun e=>by
  have key:∀(l:Fr),look l i=some u→∃p∈l,p.1=i:=by
   intro l
   induction l with
   | nil=>intro h;cases h
   | cons p r ih=>
    intro h
    obtain⟨j,x⟩:=p
    simp only [look] at h
    cases hb:oX j i with
    | true=>exact⟨(j,x),by simp,sJ hb⟩
    | false=>
     rw [hb] at h
     obtain⟨p,o,he⟩:=ih h
     exact⟨p,by simp [o],he⟩
  obtain⟨p,o,he⟩:=key l hi
  exact hd p o (he.trans e.symm)
 have:=h.val i u hi
 simp only [nX,pB] at this⊢
 rwa [EM f]
theorem qU (hs:a.tmps.size=n)(hd:d<n)(v:aM):iI (a.put (some d) v) (some d)=v:=by
 simp [iI,nX,hs,hd]
theorem uO {e:Option Tmp}(h:e≠some d)(v:aM):iI (a.put (some d) v) e=iI a e:=by
 cases e with
 | none=>rfl
 | some e=>
  have f:d≠e:=fun he=>h (by rw [he])
  simp only [iI,nX,pB]
  rw [EM f]
theorem FX (hk:DrawOk n ol m fl l dss rl)(ho:ol[i]?=some o)(him:i<m)(hm:∀i,m≤i→i<ol.length→listed.getD i false=false)(hr:Rp n l a)(hfact:∀i,i<ol.length→listed.getD i false=true→wD ol Rs w0 i a w)(hx:Ext w0 w)(e:Ext w w')(hR:iZ Rs i v w'):Rp n l (a.put o.dst v)∧∀j,j<ol.length→(listed.setIfInBounds i true).getD j false=true→wD ol Rs w0 j (a.put o.dst v) w':=by
 obtain⟨d,I,F,D,p⟩:=hk.dst i o ho him
 rw [I]
 refine⟨hr.put_far D v,fun j E f=>?_⟩
 by_cases q:i=j
 ·subst q
  refine⟨w',hx.trans e,Ext.refl _,?_⟩
  have G:cQ ol i=some d:=by unfold cQ;rw [ho];exact I
  rw [G,qU hr.size F]
  exact hR
 ·rw [getD_set_ne false q] at f
  have H:j<m:=by
   rcases i7 j m with h | h
   ·exact h
   ·rw [hm j h E] at f;cases f
  obtain⟨L,G,M,h1⟩:=hfact j E f
  refine⟨L,G,M.t e,?_⟩
  rw [uO]
  ·exact h1
  ·obtain⟨oj,r⟩:∃oj,ol[j]?=some oj:=⟨_,cC E⟩
   unfold cQ
   rw [r]
   exact p j oj r (kH q) H
theorem sR (hk:DrawOk n ol m fl l dss rl)(hoi:ol[i]?=some o)(him:i<m)(v:aM)(hne:i≠j)(hjm:j<m):iI (a.put o.dst v) (cQ ol j)=iI a (cQ ol j):=by
 obtain⟨d,h,_,_,f⟩:=hk.dst i o hoi him
 rw [h]
 refine uO ?_ v
 unfold cQ
 obtain⟨oj,e⟩:∃oj,ol[j]?=some oj:=⟨_,cC (by have:=hk.mle;omega)⟩
 rw [e]
 exact f j oj e (kH hne) hjm
theorem LD {acc:Fr}(_hal:∀i∈al,i<m∧i ∉ fl)(hacc:Rp n acc a)(hdi:∀i∈al,∀j∈al,i≠j→listed.getD i false=true→listed.getD j false=true→iI a (cQ ol i)≠iI a (cQ ol j))(hl:∀i∈al,listed.getD i false=true):zX ol al acc:=by
 intro i hi j f e di dj hdi' hdj' u h1 h2
 refine hdi i hi j f e (hl i hi) (hl j f) ?_
 rw [hdi',hdj']
 show a.tmps.getD di undef=a.tmps.getD dj undef
 rw [hacc.val di u h1,hacc.val dj u h2]
theorem VU (hk : DrawOk n ol m fl l dss rl)(hal : ∀ i ∈ al, i < m ∧ i ∉ fl)(hold : zS Rs al)(ho : nR P n ol fl al Rs l w0 dss 0)(hfin : ∀ w1, Ext w0 w1 → Deps ol Rs w0 w1 (fun acc => zX ol al acc → wl P ol.toArray (NP Q) n (ol.drop m) acc w1) (gE m) l):∀ (fuel : Nat) (listed : Array Bool) (a : Act) (w : a6), qO ol.length listed ≤ fuel → listed.size = ol.length → Closed ol listed → (∀ i, m ≤ i → i < ol.length → listed.getD i false = false) → Rp n l a → Ext w0 w →
      (∀ i, i < ol.length → listed.getD i false = true → wD ol Rs w0 i a w) → (∀ i ∈ al, ∀ j ∈ al, i ≠ j → listed.getD i false = true → listed.getD j false = true → iI a (cQ ol i) ≠ iI a (cQ ol j)) → wpAny P .any ol.toArray (NP Q) fuel listed a w := by
  intro fuel
  induction fuel with
  | zero =>
    intro listed a w hf hs H Z hr hx D U
    have p : ∀ i, i < ol.length → listed.getD i false = true := by
      intro i hi
      cases h : listed.getD i false with
      | true => rfl
      | false => have := kJ hi hs h; omega
    have bg : m = ol.length := by
      rcases i7 m ol.length with h | h
      · have h1 := Z m (aZ _) h
        rw [p m h] at h1; cases h1
      · have := hk.mle; omega
    obtain ⟨acc, r, V⟩ := Deps.apply (n := n) (gE m) l (fun j hj => D j (by have := iT.1 hj; omega) (p j (by have := iT.1 hj; omega))) (hfin w hx) hr
    exact FQ hk 0 m listed a w (aZ _) (by omega) hf hs H (fun i hi => by rw [p i hi]; simp; omega) (V (LD hal r U (fun i hi => p i (by have := (hal i hi).1; omega))) a r)
  | succ fuel ih =>
    intro listed a w hf hs H Z hr hx D U
    by_cases G : ∀ i, i < m → listed.getD i false = true
    · obtain ⟨acc, r, V⟩ := Deps.apply (n := n) (gE m) l (fun j hj => D j (by have := iT.1 hj; have := hk.mle; omega) (G j (iT.1 hj))) (hfin w hx) hr
      exact FQ hk (fuel + 1) m listed a w (aZ _) hk.mle hf hs H (fun i hi => by
        rcases i7 i m with h | h
        · rw [G i h]; simpa using h
        · rw [Z i h hi]; simp; omega) (V (LD hal r U (fun i hi => G i (hal i hi).1)) a r)
    · -- the least that is not listed
      obtain ⟨j, _, ar, Y⟩ : ∃ j, j < m ∧ listed.getD j false = false ∧ ∀ i, i < j → listed.getD i false = true := by
        have key : ∀ k, (∃ j, j < m ∧ j < k ∧ listed.getD j false = false) → ∃ j, j < m ∧ listed.getD j false = false ∧ ∀ i, i < j → listed.getD i false = true := by
          intro k
          induction k with
          | zero => rintro ⟨j, _, h, _⟩; omega
          | succ k ihk =>
            rintro ⟨j, h1, h2, h3⟩
            by_cases hs' : ∃ j, j < m ∧ j < k ∧ listed.getD j false = false
            · exact ihk hs'
            · refine ⟨j, h1, h3, fun i hi => ?_⟩
              cases hb : listed.getD i false with
              | true => rfl
              | false => exact absurd ⟨i, by omega, by omega, hb⟩ hs'
        refine key m (Classical.byContradiction fun ah => G fun i hi => ?_)
        cases hb : listed.getD i false with
        | true => rfl
        | false => exact absurd ⟨i, hi, hi, hb⟩ ah
      have bg := hk.mle
      obtain ⟨oj, aq⟩ : ∃ oj, ol[j]? = some oj := ⟨_, cC (by omega)⟩
      have ak : j ∈ qB .any ol.toArray listed := j8.2 ⟨by rw [jC]; exact ar, oj, aq, fun e he hb => Y _ (hk.back j oj aq e he hb)⟩
      have facts_of : ∀ (i : Nat) (o : bD), ol[i]? = some o → i < m → i ∈ qB .any ol.toArray listed → ∀ k ∈ (dss[i]?).getD [], wD ol Rs w0 k a w := by
        intro i o f q E k bd
        have h1 := hk.deps i o f q k bd
        obtain ⟨_, o', ho', p⟩ := j8.1 E
        rw [f] at ho'
        cases ho'
        have h2 := H.reach hk i o f p k h1
        have h3 : k < listed.size := by
          rcases i7 k listed.size with h' | h'
          · exact h'
          · simp [Array.getElem?_eq_none h'] at h2
        exact D k (by omega) h2
      by_cases aj : ∃ i ∈ fl, i ∈ qB .any ol.toArray listed
      · obtain ⟨i, I, E⟩ := aj
        have q := hk.flt i I
        obtain ⟨ae, o, f, p⟩ := j8.1 E
        have aE := CE (k := 0) ho i o (by simpa using f) (by rw [hk.dlen]; exact q)
        rw [eJ, if_pos (by simpa using I)] at aE
        obtain ⟨acc, r, v, az, bi, ap, hR⟩ := Deps.apply (n := n) _ l (facts_of i o f q E) (aE w hx) hr
        have hy : Yields P ol.toArray o v a := cH ⟨by obtain ⟨d, op, ty, pos, af, gd⟩ := o; exact B2 bi r, fun w => by
          obtain ⟨d, op, ty, pos, af, gd⟩ := o
          rw [vQ az r]; exact ap w⟩
        have hun' : listed.getD i false = false := by rw [← jC]; exact ae
        obtain ⟨h1, h2⟩ := FX hk f q Z hr D hx (Ext.refl w) hR
        refine wpAny_first (by rw [nP]; exact f) (U7 hk) (fun c a w h => h.elim) fuel listed a w (fun k ok au bj aa ah => ?_) E hy ?_
        · have bm : k ∉ cF rl i := fun Z => by
            have h1 := H.reach hk i o f p k Z
            have h2 : k < ol.length := (gY.1 (show ol[k]? = some ok by rw [← nP]; exact au)).1
            rw [jC, h1] at aa; cases aa
          rcases hk.free i o f I k ok (by rw [← nP]; exact au) bj bm with h | h
          · obtain ⟨e, he, hb, ai⟩ := VV h
            exact absurd ai (ah e he hb)
          · exact h
        · refine ih _ _ w (by have := kJ (by omega) hs hun'; omega) (by simpa using hs) (H.set f p) (fun k am hk' => ?_) h1 hx h2 (fun i' hi' j' hj' L M F => ?_)
          · rw [getD_set_ne false (by omega)]; exact Z k am hk'
          · have X : i ≠ i' := fun e => (hal i' hi').2 (e ▸ I)
            have e2 : i ≠ j' := fun e => (hal j' hj').2 (e ▸ I)
            rw [getD_set_ne false X] at M
            rw [getD_set_ne false e2] at F
            rw [sR hk f q v X (hal i' hi').1, sR hk f q v e2 (hal j' hj').1]
            exact U i' hi' j' hj' L M F
      · have ba : j ∉ fl := fun h => aj ⟨j, h, ak⟩
        refine ⟨fun h0 => (by rw [h0] at ak; cases ak), fun i E => ?_⟩
        obtain ⟨ae, o, f, p⟩ := j8.1 E
        have bp : i < ol.length := (gY.1 f).1
        have q : i < m := by
          rcases i7 i m with h | h
          · exact h
          · rcases hk.tail i o f h j (by omega) with h1 | h1
            · exact absurd h1 ba
            · have := H.reach hk i o f p j h1
              rw [ar] at this; cases this
        have I : i ∉ fl := fun h => aj ⟨i, h, E⟩
        have hun' : listed.getD i false = false := by rw [← jC]; exact ae
        have aE := CE (k := 0) ho i o (by simpa using f) (by rw [hk.dlen]; exact q)
        rw [eJ, if_neg (by simpa using I)] at aE
        obtain ⟨acc, r, V⟩ := Deps.apply (n := n) _ l (facts_of i o f q E) (aE w hx) hr
        have hl := V a r
        have next : ∀ v w', nQ w o.dst (fun v w' => iZ Rs i v w' ∧ (al.contains i = true → pZ w v)) .normal (a.put o.dst v) w' → wpAny P .any ol.toArray (NP Q) fuel (listed.setIfInBounds i true) (a.put o.dst v) w' := by
          intro v w' bf
          obtain ⟨e, hR, _⟩ := bf
          have hv : iZ Rs i v w' ∧ (al.contains i = true → pZ w v) := by
            obtain ⟨d, hd, ag, _⟩ := hk.dst i o f q
            rw [hd, qU hr.size ag] at hR
            exact hR
          obtain ⟨h1, h2⟩ := FX hk f q Z hr D hx e hv.1
          have W : iI (a.put o.dst v) (cQ ol i) = v := by
            obtain ⟨d, hd, ag, _⟩ := hk.dst i o f q
            have X : cQ ol i = some d := by unfold cQ; rw [f]; exact hd
            rw [X, hd, qU hr.size ag]
          have fresh : ∀ j ∈ al, j ≠ i → listed.getD j false = true → al.contains i = true → iI a (cQ ol j) ≠ v := by
            intro j hj _ F bu ai
            obtain ⟨wj, _, f2, bh⟩ := D j (by have := (hal j hj).1; omega) F
            obtain ⟨g, hg, _⟩ := IO hold j hj _ _ bh
            obtain ⟨g', hg', _⟩ := hv.2 bu
            rw [ai, hg'] at hg
            injection hg with hg
            injection hg with hg
            injection hg with hg
            have := f2.size
            omega
          refine ih _ _ w' (by have := kJ bp hs hun'; omega) (by simpa using hs) (H.set f p) (fun k am hk' => ?_) h1 (hx.trans e) h2 (fun i' hi' j' hj' L M F => ?_)
          · rw [getD_set_ne false (by omega)]; exact Z k am hk'
          · by_cases X : i = i'
            · subst X
              rw [getD_set_ne false L] at F
              rw [W, sR hk f q v L (hal j' hj').1]
              exact fun h => fresh j' hj' (kH L) F (by simpa using hi') h.symm
            · rw [getD_set_ne false X] at M
              by_cases e2 : i = j'
              · subst e2
                rw [W, sR hk f q v X (hal i' hi').1]
                exact fresh i' hi' (kH X) M (by simpa using hj')
              · rw [getD_set_ne false e2] at F
                rw [sR hk f q v X (hal i' hi').1, sR hk f q v e2 (hal j' hj').1]
                exact U i' hi' j' hj' L M F
        have nolets : ¬ LetsOut (nQ w o.dst (fun v w' => iZ Rs i v w' ∧ (al.contains i = true → pZ w v))) := fun ⟨_, _, h⟩ => h
        unfold wpOp
        rw [nP, f]
        unfold wpList at hl
        simp only at hl ⊢
        split at hl
        · rename_i hw
          rw [if_pos hw]
          rcases hl with hl | hl
          · exact cH (AV hl (fun _ _ _ h => h) nolets (fun a w h => h.2.2) (fun v w' h => next v w' h))
          · exact absurd hl.2 nolets
        · rename_i hw
          rw [if_neg hw]
          exact next _ _ hl
theorem yZ (hmix:P.follows .mixedOrders=true)(m:Nat)(fl al:List Nat)(Rs:List (aM→a6→Prop))(dss:List (List Nat))(rl:List (List Nat))(hk:yT n ol m fl l dss rl=true)(hal:al.all (fun i=>decide (i<m)&& !fl.contains i)=true)(hold:zS Rs al)(ho:nR P n ol fl al Rs l w dss 0)(hfin:∀w1,Ext w w1→Deps ol Rs w w1 (fun acc=>zX ol al acc→wl P ol.toArray (NP Q) n (ol.drop m) acc w1) (gE m) l):cw P Q n (.region id ol.toArray true) l w:=fun a p=>by
 refine EJ NP.imp (wp_region_any hmix ?_)
 have f:(pA ol.toArray.size false).size=ol.length:=by simp
 have e:∀i,(pA ol.toArray.size false).getD i false=false:=by
  intro i
  simp only [pB,AO]
  split <;> rfl
 have hal':∀i∈al,i<m∧i ∉ fl:=by
  intro i hi
  rw [fV] at hal
  simpa using hal i hi
 refine VU (YJ hk) hal' hold ho hfin ol.toArray.size _ a _ ?_ f (fun i o ho h=>by rw [e i] at h;cases h) (fun i _ hi=>e i) p (Ext.refl w).drew (fun i hi h=>by rw [e i] at h;cases h) (fun i _ j _ _ h=>by rw [e i] at h;cases h)
 refine a8 AG ?_
 simp
theorem dG (hmix:P.follows .mixedOrders=true)(m:Nat)(fl:List Nat)(Rs:List (aM→a6→Prop))(dss:List (List Nat))(rl:List (List Nat))(hk:yT n ol m fl l dss rl=true)(ho:nR P n ol fl [] Rs l w dss 0)(hfin:∀w1,Ext w w1→Deps ol Rs w w1 (fun acc=>wl P ol.toArray (NP Q) n (ol.drop m) acc w1) (gE m) l):cw P Q n (.region id ol.toArray true) l w:=
 yZ hmix m fl [] Rs dss rl hk J AT ho (fun w1 h=>Deps.weak (k:=fun acc=>wl P ol.toArray (NP Q) n (ol.drop m) acc w1) (k':=fun acc=>zX ol [] acc→wl P ol.toArray (NP Q) n (ol.drop m) acc w1) (fun _ h1 _=>h1) _ _ (hfin w1 h))
theorem d9:nR P n ol fl al Rs l w [] k:=trivial
theorem aH (ho:ol[k]?=some o)(hf:fl.contains k=false)(h:wC P n ol al Rs l w k o ds)(h':nR P n ol fl al Rs l w dss (k+1)):nR P n ol fl al Rs l w (ds::dss) k:=
 ⟨by rw [ho];simp only;rw [hf];exact h,h'⟩
theorem fD (ho:ol[k]?=some o)(hf:fl.contains k=true)(h:zW P ol Rs l w k o ds)(h':nR P n ol fl al Rs l w dss (k+1)):nR P n ol fl al Rs l w (ds::dss) k:=
 ⟨by rw [ho];simp only;rw [hf];exact h,h'⟩
theorem aE {R:aM→a6→Prop}(hR:Rs[k]?=some R)(hn:al.contains k=false)(h:∀w1,Ext w w1→Deps ol Rs w w1 (fun acc=>wl P ol.toArray (nQ w1 o.dst R) n [o] acc w1) ds l):wC P n ol al Rs l w k o ds:=by
 have e:iZ Rs k=R:=by unfold iZ;rw [hR];rfl
 intro w1 r
 rw [e]
 refine Deps.weak (fun acc h1 a D=>?_) _ _ (h w1 r)
 have h2:=h1 a D
 unfold wpList at h2⊢
 have imp:∀a' w',nQ w1 o.dst R .normal a' w'→nQ w1 o.dst (fun v w=>R v w∧(al.contains k=true→pZ w1 v)) .normal a' w':=fun a' w' p=>⟨p.1,⟨p.2.1,fun q=>by rw [hn] at q;cases q⟩,p.2.2⟩
 split at h2
 ·rename_i f
  rw [if_pos f]
  rcases h2 with h2 | h2
  ·exact cH (AV h2 (fun _ _ _ h=>h) (fun⟨_,_,h⟩=>h) (fun a w h=>h.2.2) (fun v w' h=>imp _ _ h))
  ·exact absurd h2.2 (fun⟨_,_,h⟩=>h)
 ·rename_i f
  rw [if_neg f]
  exact imp _ _ h2
theorem tK {R:aM→a6→Prop}(hR:Rs[k]?=some R)(h:∀w1,Ext w w1→Deps ol Rs w w1 (fun acc=>wl P ol.toArray (nQ w1 o.dst (fun v w=>R v w∧pZ w1 v)) n [o] acc w1) ds l):wC P n ol al Rs l w k o ds:=by
 have e:iZ Rs k=R:=by unfold iZ;rw [hR];rfl
 intro w1 r
 rw [e]
 refine Deps.weak (fun acc h1 a q=>?_) _ _ (h w1 r)
 have h2:=h1 a q
 unfold wpList at h2⊢
 have imp:∀a' w',nQ w1 o.dst (fun v w=>R v w∧pZ w1 v) .normal a' w'→nQ w1 o.dst (fun v w=>R v w∧(al.contains k=true→pZ w1 v)) .normal a' w':=fun a' w' p=>⟨p.1,⟨p.2.1.1,fun _=>p.2.1.2⟩,p.2.2⟩
 split at h2
 ·rename_i f
  rw [if_pos f]
  rcases h2 with h2 | h2
  ·exact cH (AV h2 (fun _ _ _ h=>h) (fun⟨_,_,h⟩=>h) (fun a w h=>h.2.2) (fun v w' h=>imp _ _ h))
  ·exact absurd h2.2 (fun⟨_,_,h⟩=>h)
 ·rename_i f
  rw [if_neg f]
  exact imp _ _ h2
theorem fE {R:aM→a6→Prop}(hR:Rs[k]?=some R)(h:∀w1,Ext w w1→Deps ol Rs w w1 (fun acc=>∃v,m4 acc o.op=true∧dB ol.toArray acc o.guard=some true∧(∀w,(execOp (rho acc) o).run P w= .ok (.value v) w)∧R v w1) ds l):zW P ol Rs l w k o ds:=by
 have e:iZ Rs k=R:=by unfold iZ;rw [hR];rfl
 intro w1 f
 rw [e]
 exact h w1 f
end
def gS (P:bW)(n:Nat)(l:Fr)(o:bD)(w:a6)(x:fI)(w':a6):Prop:=∀a,Rp n l a→(execOp a.eval o).run P w= .ok x w'
section
variable {P:bW}{n:Nat}{l:Fr}{w:a6}{d:Nat}{op:Op}{ty:aS}{pos:String}{af:Array Edge}{gd:Option (Nat×Bool)}
theorem pJ (hk:m4 l op=true)(hr:(execOp (rho l) ⟨dst,op,ty,pos,af,gd⟩).run P w= .ok (.value v) w:=by kernel_rfl):gS P n l ⟨dst,op,ty,pos,af,gd⟩ w (.value v) w:=fun a e=>by rw [vQ hk e];exact hr
theorem d7 {x:cN}{t:aS}(hx:bV l x=some (.pointer (some p)))(hl:(loadVar t p).run P w= .ok v w):gS P n l ⟨dst,.load t x,ty,pos,af,gd⟩ w (.value v) w:=fun a f=>by
 have e:(AL t (a.eval x)).run P w= .ok v w:=by rw [f.ev hx];exact hl
 show ((AL t (a.eval x)>>=fun r=>pure (fZ r):Sem fI)).run P w=_
 rw [cE,e];rfl
theorem iA {x y:cN}{t:aS}(hx:bV l x=some (.pointer (some p)))(hy:bV l y=some v)(hs:(storeVar t p v).run P w= .ok () w'):gS P n l ⟨dst,.store t x y,ty,pos,af,gd⟩ w .skip w':=fun a f=>by
 have e:(AK t (a.eval x) (a.eval y)).run P w= .ok () w':=by rw [f.ev hx,f.ev hy];exact hs
 show ((AK t (a.eval x) (a.eval y)>>=fun _=>pure Next.skip:Sem fI)).run P w=_
 rw [cE,e];rfl
theorem lE {x:cN}(hx:bV l x=some v):gS P n l ⟨dst,.assign x,ty,pos,af,gd⟩ w (.value v) w:=fun a e=>by simp only [execOp,e.ev hx];rfl
theorem bZ {x:cN}(hx:bV l x=some v):gS P n l ⟨dst,.move x,ty,pos,af,gd⟩ w (.value v) w:=fun a e=>by simp only [execOp,e.ev hx];rfl
end
def dfr (ol:List bD)(vs:List aM)(l:Fr):List Nat→Fr
 | []=>l
 | j::ds=>mN (cQ ol j) ((vs[j]?).getD undef) (dfr ol vs l ds)
def wv (ws:List a6)(w:a6)(t:Nat):a6:=(ws[t]?).getD w
section
variable (P:bW) (n:Nat) (ol:List bD) (vs:List aM) (ws:List a6) (w:a6) (dss:List (List Nat)) (l:Fr) (st:List Nat)
def wE (i t:Nat):Prop:=
 match ol[i]? with
 | some o=>if st.contains i then gS P n (dfr ol vs l (cF dss i)) o (wv ws w t) .skip (wv ws w (t+1)) else gS P n (dfr ol vs l (cF dss i)) o (wv ws w t) (.value ((vs[i]?).getD undef)) (wv ws w t)
 | none=>True
def oT:List (Nat×Nat)→Prop
 | []=>True
 | (i,t)::r=>wE P n ol vs ws w dss l st i t∧oT r
def zK (ol:List bD)(vs:List aM)(l:Fr):Fr:=dfr ol vs l (gE ol.length)
end
def jV (st js:List Nat):Nat:=(st.filter fun s=>js.contains s).length
def yU (n : Nat)(ol : List bD)(st : List Nat)(l : Fr)(dss rl : List (List Nat))(ps : List (Nat × Nat)): Bool :=
  (ol.zipIdx.all fun (o, i) => (match o.guard with | none => true | some _ => false) && (o.after.toList.all fun e => !Region.binds .any e || decide (e.on < i)) &&
    ((cF rl i).all fun j => decide (j < i) && o.after.toList.any fun e => jN .any e && (e.on == j || (cF rl e.on).contains j)) &&
    ((cF dss i).all fun j => (cF rl i).contains j) &&
    (match o.dst with
     | some d => !st.contains i && decide (d < n) && l.all (fun p => p.1 != d) && ol.zipIdx.all (fun (o', j) => j == i || o'.dst != some d)
     | none => st.contains i) &&
    (gE (st.length + 1)).all (fun t => decide (t < jV st (cF rl i)) || (t != 0 && (cF rl (st.getD (t - 1) 0)).contains i) || (st.contains i && t != jV st (cF rl i)) || ps.contains (i, t))) &&
  (gE st.length).all (fun t => decide (st.getD t 0 < ol.length) && (gE t).all fun u => (cF rl (st.getD t 0)).contains (st.getD u 0))
structure DetOk (n:Nat)(ol:List bD)(st:List Nat)(l:Fr)(dss rl:List (List Nat))(ps:List (Nat×Nat)):Prop where
 guard:∀(i:Nat) (o:bD),ol[i]?=some o→o.guard=none
 back:∀(i:Nat) (o:bD),ol[i]?=some o→∀e∈o.after,jN .any e=true→e.on<i
 reach:∀(i:Nat) (o:bD),ol[i]?=some o→∀j∈cF rl i,j<i∧∃e∈o.after,jN .any e=true∧(e.on=j∨j∈cF rl e.on)
 deps:∀(i:Nat) (o:bD),ol[i]?=some o→∀j∈cF dss i,j∈cF rl i
 val:∀(i:Nat) (o:bD),ol[i]?=some o→∀d,o.dst=some d→i ∉ st∧d<n∧(∀p∈l,p.1≠d)∧∀(j:Nat) (o':bD),ol[j]?=some o'→j≠i→o'.dst≠some d
 sto:∀(i:Nat) (o:bD),ol[i]?=some o→o.dst=none→i∈st
 pair:∀(i:Nat) (o:bD),ol[i]?=some o→∀t,t≤st.length→jV st (cF rl i)≤t→(t=0∨i ∉ cF rl (st.getD (t-1) 0))→(i∈st→t=jV st (cF rl i))→(i,t)∈ps
 inN:∀t,t<st.length→st.getD t 0<ol.length
 ord:∀t,t<st.length→∀u,u<t→st.getD u 0∈cF rl (st.getD t 0)
theorem LE {l:Fr}{rl:List (List Nat)}(h:yU n ol st l dss rl ps=true):DetOk n ol st l dss rl ps:=by
 simp only [yU,eK] at h
 obtain⟨h1,h2⟩:=h
 have key:=fun (i:Nat) (o:bD) (f:ol[i]?=some o)=>rX h1 i o f
 simp only [eK] at key
 have q:∀t,t<st.length→st.getD t 0<ol.length∧∀u,u<t→st.getD u 0∈cF rl (st.getD t 0):=by
  intro t ht
  rw [fV] at h2
  have:=h2 t (iT.2 ht)
  simp only [eK,decide_eq_true_eq,fV,iT,jR] at this
  exact this
 refine⟨fun i o f=>?_,fun i o f e he hb=>?_,fun i o f j G=>?_,fun i o f j G=>?_,fun i o f d F=>?_,fun i o f F=>?_,fun i o f t ht _ I hs=>?_,fun t ht=>(q t ht).1,fun t ht=>(q t ht).2⟩
 ·have:=(key i o f).1.1.1.1.1
  cases hg:o.guard with
  | none=>rfl
  | some g=>rw [hg] at this;cases this
 ·have:=(key i o f).1.1.1.1.2
  rw [fV] at this
  have:=this e (by simpa using he)
  simpa [hb] using this
 ·have:=(key i o f).1.1.1.2
  rw [fV] at this
  have:=this j G
  simp only [eK,decide_eq_true_eq,AJ,mY,beq_iff_eq,jR] at this
  obtain⟨r,e,he,hb,E⟩:=this
  exact⟨r,e,by simpa using he,hb,E⟩
 ·have:=(key i o f).1.1.2
  rw [fV] at this
  simpa using this j G
 ·have:=(key i o f).1.2
  rw [F] at this
  simp only [eK,AN,decide_eq_true_eq] at this
  obtain⟨⟨⟨r,E⟩,H⟩,L⟩:=this
  refine⟨fun M=>?_,E,fun p U=>?_,fun j o' ho' D e=>?_⟩
  ·rw [jR.2 M] at r;cases r
  ·rw [fV] at H
   simpa using H p U
  ·have:=rX L j o' ho'
   simp only [mY,beq_iff_eq,bne_iff_ne] at this
   rcases this with h | h
   ·exact D h
   ·exact h e
 ·have:=(key i o f).1.2
  rw [F] at this
  exact jR.1 this
 ·have:=(key i o f).2
  rw [fV] at this
  have:=this t (iT.2 (by omega))
  simp only [mY,eK,decide_eq_true_eq,bne_iff_ne,ne_eq,jR] at this
  rcases this with ((h | h) | h) | h
  ·omega
  ·rcases I with h0 | h0
   ·exact absurd h0 h.1
   ·exact absurd h.2 h0
  ·exact absurd (hs h.1) h.2
  ·exact h
section
variable {P:bW}{Q:dI→Act→a6→Prop}{n:Nat}{ol:List bD}{vs:List aM}{ws:List a6}{w:a6}{dss rl:List (List Nat)}{l:Fr}{st:List Nat}{ps:List (Nat×Nat)}
theorem LB:∀{ps:List (Nat×Nat)},oT P n ol vs ws w dss l st ps→∀i t,(i,t)∈ps→wE P n ol vs ws w dss l st i t
 | [],_,i,t,h=>by cases h
 | (j,u)::r,h,i,t,hm=>by
  rcases mW.1 hm with e | e
  ·cases e;exact h.1
  ·exact LB h.2 i t e
theorem Rp.dfr {a:Act}(hr:Rp n l a):∀(ds:List Nat),(∀j∈ds,∀d,cQ ol j=some d→a.tmps.getD d undef=(vs[j]?).getD undef)→Rp n (Go.Proofs.YtkepckmdjncehaaGreatDoor.dfr ol vs l ds) a
 | [],_=>hr
 | j::ds,h=>by
  have ih:=Rp.dfr hr ds (fun i hi=>h i (by simp [hi]))
  simp only [Go.Proofs.YtkepckmdjncehaaGreatDoor.dfr]
  cases hd:cQ ol j with
  | none=>exact ih
  | some d=>exact ih.cons (h j (by simp) d hd)
theorem zF (hk:DetOk n ol st l dss rl ps)(h:Closed ol listed):∀(i:Nat) (o:bD),ol[i]?=some o→(∀e∈o.after,jN .any e=true→listed.getD e.on false=true)→∀j∈cF rl i,listed.getD j false=true:=by
 intro i
 induction i using sG with
 | ind i ih=>
  intro o q f j r
  obtain⟨_,e,he,hb,h1⟩:=hk.reach i o q j r
  have p:=hk.back i o q e he hb
  rcases h1 with h1 | h1
  ·rw [←h1];exact f e he hb
  ·have hN:e.on<ol.length:=Nat.lt_trans p (gY.1 q).1
   exact ih e.on p _ (cC hN) (h e.on _ (cC hN) (f e he hb)) j h1
theorem LN {t:Nat}(h:∀u,t≤u→u<st.length→st.getD u 0 ∉ js):jV st js≤t:=by
 unfold jV
 have e:st.filter (fun s=>js.contains s)=(st.take t).filter (fun s=>js.contains s)++(st.drop t).filter (fun s=>js.contains s):=by rw [←NC,sK]
 have f:(st.drop t).filter (fun s=>js.contains s)= []:=by
  refine List.filter_eq_nil_iff.2 fun s hs=>?_
  obtain⟨u,o,rfl⟩:=wL hs
  rw [gO] at o
  have:=h (t+u) (by omega) (by omega)
  rw [List.getElem_drop]
  rw [bK,cC (by omega)] at this
  simpa using this
 rw [e,f,List.append_nil]
 refine a8 (List.length_filter_le _ _) ?_
 rw [dH];omega
theorem JU {t:Nat}(ht:t≤st.length)(h:∀u,u<t→st.getD u 0∈js):t≤jV st js:=by
 unfold jV
 have e:st.filter (fun s=>js.contains s)=(st.take t).filter (fun s=>js.contains s)++(st.drop t).filter (fun s=>js.contains s):=by rw [←NC,sK]
 have f:(st.take t).filter (fun s=>js.contains s)=st.take t:=by
  refine List.filter_eq_self.2 fun s hs=>?_
  obtain⟨u,o,rfl⟩:=wL hs
  rw [dH] at o
  have:=h u (by omega)
  rw [List.getElem_take]
  rw [bK,cC (by omega)] at this
  simpa using this
 rw [e,f,List.length_append,dH];omega
theorem Z9 (hk:DetOk n ol st l dss rl ps)(ho:oT P n ol vs ws w dss l st ps)(hfin:eo Q .normal n (zK ol vs l) (wv ws w st.length)):∀(fuel:Nat) (listed:Array Bool) (a:Act) (t:Nat),qO ol.length listed≤fuel→listed.size=ol.length→Closed ol listed→t≤st.length→(∀u,u<st.length→listed.getD (st.getD u 0) false=decide (u<t))→Rp n l a→
   (∀i,i<ol.length→listed.getD i false=true→∀d,cQ ol i=some d→a.tmps.getD d undef=(vs[i]?).getD undef)→wpAny P .any ol.toArray Q fuel listed a (wv ws w t):=by
 have fin:∀(listed:Array Bool) (a:Act) (t:Nat),(∀i,i<ol.length→listed.getD i false=true)→t≤st.length→(∀u,u<st.length→listed.getD (st.getD u 0) false=decide (u<t))→Rp n l a→
   (∀i,i<ol.length→listed.getD i false=true→∀d,cQ ol i=some d→a.tmps.getD d undef=(vs[i]?).getD undef)→Q .normal a (wv ws w t):=by
  intro listed a t p ht q hr X
  have e:t=st.length:=by
   rcases i7 t st.length with h | h
   ·have h1:=q t h
    rw [p _ (hk.inN t h)] at h1
    simp at h1
   ·omega
  subst e
  exact hfin a (hr.dfr _ fun j G d L=>X j (iT.1 G) (p j (iT.1 G)) d L)
 intro fuel
 induction fuel with
 | zero=>
  intro listed a t hf hs E ht q hr X
  have p:∀i,i<ol.length→listed.getD i false=true:=by
   intro i hi
   cases h:listed.getD i false with
   | true=>rfl
   | false=>have:=kJ hi hs h;omega
  refine⟨?_,fin listed a t p ht q hr X⟩
  refine wM.2 fun j G=>?_
  obtain⟨h1,o,U,_⟩:=j8.1 G
  have ba:j<ol.length:=(gY.1 U).1
  rw [jC,p j ba] at h1
  cases h1
 | succ fuel ih=>
  intro listed a t hf hs E ht q hr X
  refine⟨fun h0=>?_,fun i az=>?_⟩
  ·refine fin listed a t (fun i hi=>?_) ht q hr X
   have key:∀k,k≤ol.length→∀i,i<k→listed.getD i false=true:=by
    intro k
    induction k with
    | zero=>intro _ i hi;omega
    | succ k ihk=>
     intro hk' i hi
     have ih':=ihk (by omega)
     rcases i7 i k with h | h
     ·exact ih' i h
     ·have e:i=k:=by omega
      subst e
      cases hb:listed.getD i false with
      | true=>rfl
      | false=>
       have V:i∈qB .any ol.toArray listed:=j8.2 ⟨by rw [jC];exact hb,_,cC (by omega),fun e he ap=>ih' _ (hk.back i _ (cC (by omega)) e he ap)⟩
       rw [h0] at V;cases V
   exact key ol.length (aZ _) i hi
  ·obtain⟨ao,o,f,p⟩:=j8.1 az
   have ae:i<ol.length:=(gY.1 f).1
   have hun':listed.getD i false=false:=by rw [←jC];exact ao
   have H:=zF hk E i o f p
   have aj:jV st (cF rl i)≤t:=LN fun u _ am M=>by
    have h1:=H _ M
    rw [q u am] at h1
    simp at h1;omega
   have aa:t=0∨i ∉ cF rl (st.getD (t-1) 0):=by
    rcases jQ t with h | h
    ·exact cH h
    ·refine cO fun M=>?_
     have h1:=q (t-1) (by omega)
     rw [decide_eq_true (by omega)] at h1
     have hN:=hk.inN (t-1) (by omega)
     have h2:=zF hk E _ _ (cC hN) (fun e he hb=>E _ _ (cC hN) h1 e he hb) i M
     rw [hun'] at h2;cases h2
   have r:i∈st→t<st.length∧st.getD t 0=i∧t=jV st (cF rl i):=by
    intro M
    obtain⟨u,F,av⟩:=wL M
    have hg:st.getD u 0=i:=by rw [bK,cC F];exact av
    have h1:=q u F
    rw [hg,hun'] at h1
    have h2:¬u<t:=by intro h;rw [decide_eq_true h] at h1;cases h1
    have h3:u=t:=by
     rcases i7 t u with h | h
     ·have h4:=hk.ord u F t h
      rw [hg] at h4
      have h5:=H _ h4
      rw [q t (by omega)] at h5
      simp at h5
     ·omega
    subst h3
    refine⟨F,hg,?_⟩
    have h4:=JU (st:=st) (js:=cF rl i) (t:=u) (by omega) (fun v hv'=>by rw [←hg];exact hk.ord u F v hv')
    omega
   have aE:=LB ho i t (hk.pair i o f t ht aj aa (fun M=>(r M).2.2))
   unfold wE at aE
   rw [f] at aE
   simp only at aE
   have Y:Rp n (dfr ol vs l (cF dss i)) a:=hr.dfr _ fun j G d L=>by
    have h1:=H j (hk.deps i o f j G)
    have h2:=(hk.reach i o f j (hk.deps i o f j G)).1
    exact X j (by omega) h1 d L
   have Z:qA o (yielded ol.toArray a.tmps)=true:=by simp [qA,hk.guard i o f]
   unfold wpOp
   rw [nP,f]
   simp only
   rw [if_pos Z]
   refine cH ?_
   unfold mA
   cases L:o.dst with
   | some d=>
    obtain⟨W,ar,ai,ak⟩:=hk.val i o f d L
    rw [if_neg (by simpa using W)] at aE
    rw [aE a Y]
    simp only [kG,L]
    refine ih _ _ t (by have:=kJ ae hs hun';omega) (by simpa using hs) (E.set f p) ht (fun u F=>?_) (hr.put_far ai _) (fun j G I e he=>?_)
    ·rw [getD_set_ne false (fun e=>W (by rw [e,bK,cC F];exact mD F))]
     exact q u F
    ·by_cases D:i=j
     ·subst D
      have e1:cQ ol i=some d:=by unfold cQ;rw [f];exact L
      rw [e1] at he
      cases he
      exact qU hr.size ar _
     ·rw [getD_set_ne false D] at I
      have ab:e≠d:=by
       intro aw
       subst aw
       obtain⟨oj,U⟩:∃oj,ol[j]?=some oj:=⟨_,cC G⟩
       refine ak j oj U (kH D) ?_
       unfold cQ at he
       rw [U] at he
       exact he
      have:=uO (a:=a) (d:=d) (e:=some e) (fun h=>ab (m9 h)) ((vs[i]?).getD undef)
      exact this.trans (X j G I e he)
   | none=>
    have M:=hk.sto i o f L
    obtain⟨_,ah,_⟩:=r M
    rw [if_pos (by simpa using M)] at aE
    rw [aE a Y]
    simp only [kG,L]
    refine ih _ _ (t+1) (by have:=kJ ae hs hun';omega) (by simpa using hs) (E.set f p) (by omega) (fun u F=>?_) hr (fun j G I e he=>?_)
    ·by_cases au:u=t
     ·subst au
      rw [ah]
      simp [hs,ae]
     ·have ab:i≠st.getD u 0:=by
       intro e
       rcases i7 u t with h | h
       ·have h1:=q u F
        rw [←e,hun',decide_eq_true h] at h1;cases h1
       ·have h4:=hk.ord u F t (by omega)
        rw [ah,←e] at h4
        have:=(hk.reach i o f i h4).1
        omega
      rw [getD_set_ne false ab,q u F]
      congr 1
      simp only [eq_iff_iff]
      omega
    ·by_cases D:i=j
     ·subst D
      have e1:cQ ol i=none:=by unfold cQ;rw [f];exact L
      rw [e1] at he;cases he
     ·rw [getD_set_ne false D] at I
      exact X j G I e he
theorem gX (hmix:P.follows .mixedOrders=true)(vs:List aM)(ws:List a6)(st:List Nat)(dss rl:List (List Nat))(ps:List (Nat×Nat))(hk:yU n ol st l dss rl ps=true)(hw:wv ws w 0=w0.drew)(ho:oT P n ol vs ws w dss l st ps)(hfin:eo Q .normal n (zK ol vs l) (wv ws w st.length)):cw P Q n (.region id ol.toArray true) l w0:=fun a p=>by
 refine wp_region_any hmix ?_
 have f:(pA ol.toArray.size false).size=ol.length:=by simp
 have e:∀i,(pA ol.toArray.size false).getD i false=false:=by
  intro i
  simp only [pB,AO]
  split <;> rfl
 have:=Z9 (LE hk) ho hfin ol.toArray.size _ a 0 (by
  refine a8 AG ?_
  simp) f (fun i o _ h=>by rw [e] at h;cases h) (bJ _) (fun u _=>by rw [e];simp) p (fun i _ h=>by rw [e] at h;cases h)
 rw [hw] at this
 exact this
theorem bA {t:Nat}(acc:Fr)(ho:ol[i]?=some o)(hs:st.contains i=false)(hv:(vs[i]?).getD undef=v)(hw:wv ws w t=wt)(hacc:dfr ol vs l (cF dss i)=acc)(h:gS P n acc o wt (.value v) wt)(h':oT P n ol vs ws w dss l st ps):oT P n ol vs ws w dss l st ((i,t)::ps):=⟨by unfold wE;rw [ho];simp only;rw [hs,if_neg (by simp),hv,hw,hacc];exact h,h'⟩
theorem iR {t:Nat}{wt':a6}(acc:Fr)(ho:ol[i]?=some o)(hs:st.contains i=true)(hw:wv ws w t=wt)(hw':wv ws w (t+1)=wt')(hacc:dfr ol vs l (cF dss i)=acc)(h:gS P n acc o wt .skip wt')(h':oT P n ol vs ws w dss l st ps):oT P n ol vs ws w dss l st ((i,t)::ps):=⟨by unfold wE;rw [ho];simp only;rw [hs,if_pos rfl,hw,hw',hacc];exact h,h'⟩
theorem gW:oT P n ol vs ws w dss l st []:=trivial
end
def cV (n:Nat):Nat:=if n=0 then 0 else Nat.log2 n+1
theorem DW:cV 0=0:=rfl
theorem pQ (n:Nat):n<2^cV n:=by
 unfold cV
 split
 ·omega
 ·exact Nat.lt_log2_self
theorem zG (h:n≠0):2^(cV n-1)≤n:=by
 unfold cV
 rw [if_neg h,mC]
 exact Nat.log2_self_le h
theorem nO:cV n=0↔n=0:=by
 unfold cV;split <;> simp_all
theorem rW (h:n<2^k):cV n≤k:=by
 by_cases h0:n=0
 ·subst h0;rw [DW];omega
 ·have h1:=zG h0
  have h2:2^(cV n-1)<2^k:=jY h1 h
  have:=(zZ (by omega:1<2)).1 h2
  have f:cV n≠0:=fun e=>h0 (nO.1 e)
  omega
theorem DX (h1:n<2^k)(h2:k=0∨2^(k-1)≤n):cV n=k:=by
 have f:=rW h1
 rcases h2 with h | h
 ·omega
 ·by_cases h0:k=0
  ·omega
  ·have e:2^(k-1)<2^cV n:=jY h (pQ n)
   have:=(zZ (by omega:1<2)).1 e
   omega
theorem E1 (x:Nat)(h:x<18446744073709551616:=by omega):Lib.bitLen x=cV x:=by
 by_cases h0:x=0
 ·subst h0;simp [Lib.bitLen,Lib.bitLenAux_zero,DW]
 ·obtain⟨a,b,c⟩:=Lib.bitLenAux_bounds 64 x h h0
  exact (DX c (cO b)).symm
theorem lQ:WB=2^64:=by decide
theorem M5 (x y c:Nat)(hc:c≤1)(w:a6):(callFunc 195 #[up (x:Int),up (y:Int),up (c:Int)]).run aN w=
   .ok (.value (.tuple #[up (((x+y+c)%18446744073709551616:Nat):Int),up (((x+y+c)/18446744073709551616:Nat):Int)])) w:=by
 rw [run_callFunc_extern Tryz.func195 (by kernel_rfl) (by kernel_rfl) (by kernel_rfl) (e:=add64Entry) (by kernel_rfl),run_add64 x y c (by omega) (by omega) (by omega) (by omega)]
 simp only [Result.andThen]
 congr 5 <;> omega
theorem zM {c:Nat}(hc:c≤1)(hx:x≤18446744073709551615)(hy:y≤18446744073709551615):∃s d:Nat,Hid (s+WB*d=x+y+c)∧s≤18446744073709551615∧d≤1∧
  ∀w,(callFunc 195 #[up (x:Int),up (y:Int),up (c:Int)]).run aN w= .ok (.value (.tuple #[up (s:Int),up (d:Int)])) w:=
 ⟨(x+y+c)%18446744073709551616,(x+y+c)/18446744073709551616,(show _=_ by rw [cP];exact iS _ _),by omega,by omega,fun w=>M5 x y c hc w⟩
theorem vZ (hx:x≤18446744073709551615)(hy:y≤18446744073709551615):∃s d:Nat,Hid (s+WB*d=x+y)∧s≤18446744073709551615∧d≤1∧
  ∀w,(callFunc 195 #[up (x:Int),up (y:Int),up 0]).run aN w= .ok (.value (.tuple #[up (s:Int),up (d:Int)])) w:=
 zM (c:=0) (by omega) hx hy
theorem a0t (hx:x≤18446744073709551615):∃s d:Nat,Hid (s+WB*d=x+1)∧s≤18446744073709551615∧d≤1∧
  ∀w,(callFunc 195 #[up (x:Int),up 0,up 1]).run aN w= .ok (.value (.tuple #[up (s:Int),up (d:Int)])) w:=
 zM (y:=0) (c:=1) (by omega) hx (by omega)
theorem EZ {Q:dI→Act→a6→Prop}(hgd:o.guard=none)(x y c:cN)(ho:o.op= .call {callee:= .value (.func 195),args:= #[x,y,c],argTypes:=ts})(X Y C:Nat)(hx:a.eval x= up (X:Int))(hy:a.eval y= up (Y:Int))(hz:a.eval c= up (C:Int))(hC:C≤1)(hX:X≤18446744073709551615)(hY:Y≤18446744073709551615)(h:∀s d:Nat,Hid (s+WB*d=X+Y+C)→s≤18446744073709551615→d≤1→wpList aN ops Q rest (a.put o.dst (.tuple #[up (s:Int),up (d:Int)])) w):wpList aN ops Q (o::rest) a w:=by
 refine zY hgd fun K f=>?_
 have e:=M5 X Y C hC w
 unfold mA
 have hf:a.eval (.func 195)= .func (.func 195) #[] #[]:=rfl
 simp [execOp,ho,resolve,invoke,hf,hx,hy,hz,e,ND,kG]
 have:=f _ _ (h ((X+Y+C)%18446744073709551616) ((X+Y+C)/18446744073709551616) (show _=_ by rw [cP];exact iS _ _) (by omega) (by omega))
 simpa using this
theorem M4 (x y b:Nat)(hb:b≤1)(w:a6):(callFunc 196 #[up (x:Int),up (y:Int),up (b:Int)]).run aN w=
   .ok (.value (.tuple #[up (((x+18446744073709551616-y-b)%18446744073709551616:Nat):Int),up ((if x<y+b then 1 else 0:Nat):Int)])) w:=by
 rw [run_callFunc_extern Tryz.func196 (by kernel_rfl) (by kernel_rfl) (by kernel_rfl) (e:=sub64Entry) (by kernel_rfl),run_sub64 x y b hb]
 rfl
theorem xD {c:Nat}(hc:c≤1)(hx:x≤18446744073709551615)(hy:y≤18446744073709551615):∃s d:Nat,Hid (s+y+c=x+WB*d)∧s≤18446744073709551615∧d≤1∧
  ∀w,(callFunc 196 #[up (x:Int),up (y:Int),up (c:Int)]).run aN w= .ok (.value (.tuple #[up (s:Int),up (d:Int)])) w:=by
 have e:=fun w=>M4 x y c hc w
 have f:(x+18446744073709551616-y-c)%18446744073709551616+y+c=x+WB*(if x<y+c then 1 else 0):=by rw [cP];split <;> omega
 have h:(x+18446744073709551616-y-c)%18446744073709551616≤18446744073709551615:=by omega
 have o:(if x<y+c then 1 else 0)≤1:=by split <;> omega
 exact⟨_,_,f,h,o,e⟩
theorem PO (hx:x≤18446744073709551615):∃s d:Nat,Hid (s+0+1=x+WB*d)∧s≤18446744073709551615∧d≤1∧
  ∀w,(callFunc 196 #[up (x:Int),up 0,up 1]).run aN w= .ok (.value (.tuple #[up (s:Int),up (d:Int)])) w:=
 xD (y:=0) (c:=1) (by omega) hx (by omega)
theorem EX {Q:dI→Act→a6→Prop}(hgd:o.guard=none)(x y c:cN)(ho:o.op= .call {callee:= .value (.func 196),args:= #[x,y,c],argTypes:=ts})(X Y C:Nat)(hx:a.eval x= up (X:Int))(hy:a.eval y= up (Y:Int))(hz:a.eval c= up (C:Int))(hC:C≤1)(hX:X≤18446744073709551615)(hY:Y≤18446744073709551615)(h:∀s d:Nat,Hid (s+Y+C=X+WB*d)→s≤18446744073709551615→d≤1→wpList aN ops Q rest (a.put o.dst (.tuple #[up (s:Int),up (d:Int)])) w):wpList aN ops Q (o::rest) a w:=by
 refine zY hgd fun K r=>?_
 have e:=M4 X Y C hC w
 have f:(X+18446744073709551616-Y-C)%18446744073709551616+Y+C=X+WB*(if X<Y+C then 1 else 0):=by rw [cP];split <;> omega
 have p:(X+18446744073709551616-Y-C)%18446744073709551616≤18446744073709551615:=by omega
 have q:(if X<Y+C then 1 else 0)≤1:=by split <;> omega
 generalize (X+18446744073709551616-Y-C)%18446744073709551616=s at*
 generalize (if X<Y+C then 1 else 0)=d at*
 unfold mA
 have hf:a.eval (.func 196)= .func (.func 196) #[] #[]:=rfl
 simp only [execOp,ho,resolve,invoke,hf,ND,sL,jZ,kX,hx,hy,hz,cE,gT,eY,Array.empty_append,Array.append_empty,e,kG]
 exact r _ _ (h s d f p q)
theorem bits_Mul64 (x y:Nat)(hx:x≤18446744073709551615)(hy:y≤18446744073709551615)(w:a6):aP aN 255 #[up (x:Int),up (y:Int)] w fun e w'=>∃hi lo:Nat,Hid (lo+WB*hi=x*y)∧hi≤18446744073709551615∧lo≤18446744073709551615∧
   e= .returned (.tuple #[up (hi:Int),up (lo:Int)])∧w=w':=by
 refine (Tryz.bits_Mul64 x y (by omega) (by omega) w).mono ?_
 rintro e w' ⟨rfl,rfl⟩
 refine⟨x*y/18446744073709551616,x*y%18446744073709551616,show _=_ by rw [cP];exact iS _ _,?_,by omega,rfl,rfl⟩
 have h1:x*y≤18446744073709551615*18446744073709551615:=jP hx hy
 omega
theorem bits_Len64 (x:Nat)(hx:x≤18446744073709551615)(w:a6):aP aN 194 #[up (x:Int)] w fun e w'=>∃n:Nat,Hid (n=cV x)∧n≤64∧e= .returned (no (n:Int))∧w=w':=by
 refine (Tryz.bits_Len64 x w (by omega) (by omega)).mono ?_
 rintro e w' ⟨rfl,rfl⟩
 refine⟨cV x,rfl,rW (by omega),?_,rfl⟩
 rw [gZ,E1 x]
theorem bits_Len (x:Nat)(hx:x≤18446744073709551615)(w:a6):aP aN 197 #[up (x:Int)] w fun e w'=>∃n:Nat,Hid (n=cV x)∧n≤64∧e= .returned (no (n:Int))∧w=w':=by
 refine (Tryz.bits_Len x w (by omega) (by omega)).mono ?_
 rintro e w' ⟨rfl,rfl⟩
 refine⟨cV x,rfl,rW (by omega),?_,rfl⟩
 rw [gZ,E1 x]
theorem bits_LeadingZeros64 (x:Nat)(hx:x≤18446744073709551615)(w:a6):aP aN 265 #[up (x:Int)] w fun e w'=>∃n:Nat,Hid (n+cV x=64)∧n≤64∧e= .returned (no (n:Int))∧w=w':=by
 refine (Tryz.bits_LeadingZeros64 x w (by omega) (by omega)).mono ?_
 rintro e w' ⟨rfl,rfl⟩
 have h1:cV x≤64:=rW (by omega)
 refine⟨64-cV x,show _=_ by omega,by omega,?_,rfl⟩
 rw [gZ,E1 x]
 congr 2;omega
theorem EY {Q:dI→Act→a6→Prop}(hgd:o.guard=none){t:aS}{x y:cN}(ho:o.op= .binOp op t x y ty)(hx:a.eval x=vx)(hy:a.eval y=vy)(hne:(op matches .eql | .neq)=false)(hr:∀w,(binOp op t vx vy).run P w= .ok v w)(h:wpList P ops Q rest (a.put o.dst v) w):wpList P ops Q (o::rest) a w:=by
 refine zY hgd fun K e=>?_
 unfold mA
 have hg:(eqGuard op t x y vx vy).run P w= .ok () w:=by
  unfold eqGuard
  cases op <;> first | rfl | (simp at hne)
 simp only [execOp,ho,hx,hy,cE,hg,eY,hr,gT,kG]
 exact e _ _ h
theorem eC {Q:dI→Act→a6→Prop}(hgd:o.guard=none){t:aS}{x y:cN}(ho:o.op= .binOp op t x y ty){f:Nat}(hx:a.eval x=vx)(hy:a.eval y=vy)(hne:(op matches .eql | .neq)=false)(hr:∀(P:bW) (t:aS) (w:a6),(binOp op t vx vy).run P w= .ok (up (f:Int)) w)(h:∀r:Nat,Hid (r=f)→r≤18446744073709551615→wpList P ops Q rest (a.put o.dst (up (r:Int))) w)(hf:f≤18446744073709551615:=by omega):wpList P ops Q (o::rest) a w:=
 EY hgd ho hx hy hne (fun w=>hr P t w) (h f J hf)
theorem nZ (n:Nat):IntKind.u64.wrap (n:Int)=((n%18446744073709551616:Nat):Int):=by
 simp [wN,uG,uF]
theorem qQ (hs:s≤64)(P:bW)(t:aS)(w:a6):(binOp .shl t (up (x:Int)) (up (s:Int))).run P w= .ok (up ((x*2^s%18446744073709551616:Nat):Int)) w:=by
 have e:((x:Int)*2^min (s:Int).toNat IntKind.u64.bits)=((x*2^s:Nat):Int):=by
  rw [gZ,show min s IntKind.u64.bits=s from gD hs];simp
 simp only [binOp]
 rw [shift_shl_any _ _ _ _ (by omega),e,nZ];rfl
theorem oD (hs:s≤64)(P:bW)(t:aS)(w:a6):(binOp .shr t (up (x:Int)) (up (s:Int))).run P w= .ok (up ((x/2^s:Nat):Int)) w:=by
 have e:((x:Int)/2^min (s:Int).toNat IntKind.u64.bits)=((x/2^s:Nat):Int):=by
  rw [gZ,show min s IntKind.u64.bits=s from gD hs];simp
 simp only [binOp]
 rw [shift_shr_any _ _ _ _ (by omega),e];rfl
theorem sO (P:bW)(t:aS)(w:a6):(binOp .mul t (up (x:Int)) (up (y:Int))).run P w= .ok (up ((x*y%18446744073709551616:Nat):Int)) w:=by
 rw [←nZ,mX];rfl
theorem B5 (P:bW)(t:aS)(w:a6):(binOp .add t (up (x:Int)) (up (y:Int))).run P w= .ok (up (((x+y)%18446744073709551616:Nat):Int)) w:=by
 rw [←nZ,Int.natCast_add];rfl
theorem qP (hy:y≤18446744073709551616)(P:bW)(t:aS)(w:a6):(binOp .sub t (up (x:Int)) (up (y:Int))).run P w= .ok (up (((x+(18446744073709551616-y))%18446744073709551616:Nat):Int)) w:=by
 have e:IntKind.u64.wrap ((x:Int)-(y:Int))=(((x+(18446744073709551616-y))%18446744073709551616:Nat):Int):=by
  simp only [wN,uG,uF]
  simp
  omega
 rw [←e];rfl
theorem FF (hy:y≠0)(hx:x≤18446744073709551615)(P:bW)(t:aS)(w:a6):(binOp .quo t (up (x:Int)) (up (y:Int))).run P w= .ok (up ((x/y:Nat):Int)) w:=by
 have h1:=fH x y
 have e:IntKind.u64.wrap ((x:Int).tdiv (y:Int))=((x/y:Nat):Int):=by
  have:(x:Int).tdiv (y:Int)=((x/y:Nat):Int):=by rw [wO (by omega)];simp
  rw [this,nZ,gN (by omega)]
 simp only [binOp,wI]
 simp [hy]
 rw [show (↑x/ ↑y:Int)=((x/y:Nat):Int) from by simp] at*
 simpa [wO] using e
theorem pM (hx:x≤18446744073709551615):(p8 64 (x:Int)).toNat=x:=ofInt_u64 x (by omega)
theorem uL (hx:x≤18446744073709551615)(hy:y≤18446744073709551615)(P:bW)(t:aS)(w:a6):(binOp .or t (up (x:Int)) (up (y:Int))).run P w= .ok (up ((x||| y:Nat):Int)) w:=by
 have e:IntKind.u64.wrap ((p8 64 (x:Int)||| p8 64 (y:Int)).toNat:Int)=((x||| y:Nat):Int):=by
  rw [BitVec.toNat_or,pM hx,pM hy,nZ,gN (qC (n:=64) (by omega) (by omega))]
 rw [←e];rfl
theorem FH (hx:x≤18446744073709551615)(hy:y≤18446744073709551615)(P:bW)(t:aS)(w:a6):(binOp .and t (up (x:Int)) (up (y:Int))).run P w= .ok (up ((x&&& y:Nat):Int)) w:=by
 have e:IntKind.u64.wrap ((p8 64 (x:Int)&&& p8 64 (y:Int)).toNat:Int)=((x&&& y:Nat):Int):=by
  rw [BitVec.toNat_and,pM hx,pM hy,nZ,gN (Nat.and_lt_two_pow (n:=64) _ (by omega))]
 rw [←e];rfl
theorem CA (hy:y<2^k):(x*2^k)||| y=x*2^k+y:=nat_join k _ _ (by simp) hy
structure Guess (B yn1 yn0 u un q r:Nat):Prop where
 eq:q*yn1+r=u
 top:u*B+un<(q+1)*(yn1*B+yn0)
 qb:q≤B+1
theorem Guess.start {B:Nat}(_hB:0<B)(h1:B≤2*yn1)(hun:un<B)(hu:u<yn1*B+yn0)(h0:yn0<B):Guess B yn1 yn0 u un (u/yn1) (u%yn1):=by
 have e:0<yn1:=by omega
 refine⟨by rw [cL];exact mV u yn1,?_,?_⟩
 ·have h2:u<(u/yn1+1)*yn1:=by
   rw [cL];exact qE u e
  have f:u*B+B≤((u/yn1+1)*yn1)*B:=by
   have:=eI B (nU h2)
   rwa [nT] at this
  rw [cI,←bX]
  omega
 ·have h2:u<(B+2)*yn1:=by
   rw [dK,cL B]
   omega
  have:=(uB e).2 h2
  omega
theorem Guess.pos {B:Nat}(hB:0<B)(ht:B≤q∨B*r+un<q*yn0):0<q:=by
 rcases ht with h | h
 ·omega
 ·rcases jQ q with e | e
  ·subst e;simp at h
  ·exact e
theorem Guess.step {B:Nat}(h:Guess B yn1 yn0 u un q r)(hun:un<B)(hu:u<yn1*B+yn0)(ht:B≤q∨B*r+un<q*yn0)(hq:0<q):Guess B yn1 yn0 u un (q-1) (r+yn1):=by
 obtain⟨e,ht',qb⟩:=h
 refine⟨?_,?_,by omega⟩
 ·have:q*yn1=(q-1)*yn1+yn1:=by
   conv=>lhs;rw [show q=(q-1)+1 from by omega]
   rw [nT]
  omega
 ·rw [jO hq,cI,←bX]
  rcases ht with h | h
  ·have h1:B*(yn1*B+yn0)≤q*(yn1*B+yn0):=eI _ h
   have h2:B*(u+1)≤B*(yn1*B+yn0):=fJ _ hu
   rw [cI,←bX] at h1
   rw [qD,cL B u] at h2
   have f:q*(yn1*B+yn0)=q*yn1*B+q*yn0:=by rw [cI,bX]
   have o:B*(yn1*B+yn0)=B*yn1*B+B*yn0:=by rw [cI,bX]
   omega
  ·have h1:(q*yn1+r)*B=u*B:=by rw [e]
   rw [dK,cL r B] at h1
   omega
theorem Guess.done {B:Nat}(h:Guess B yn1 yn0 u un q r)(h0:yn0<B)(hd:(q<B∧q*yn0≤B*r+un)∨(q≤B∧B≤r)):q=(u*B+un)/(yn1*B+yn0)∧q*(yn1*B+yn0)≤u*B+un:=by
 obtain⟨e,ht,_⟩:=h
 have key:q*yn0≤B*r+un:=by
  rcases hd with⟨_,h⟩ | ⟨h1,h2⟩
  ·exact h
  ·have p:q*yn0≤B*B:=jP h1 (by omega)
   have D:B*B≤B*r:=fJ _ h2
   omega
 have f:q*(yn1*B+yn0)≤u*B+un:=by
  have h1:(q*yn1+r)*B=u*B:=by rw [e]
  rw [dK,cL r B] at h1
  rw [cI,←bX]
  omega
 refine⟨?_,f⟩
 have o:0<yn1*B+yn0:=by
  rcases jQ (yn1*B+yn0) with h | h
  ·rw [h] at ht;simp at ht
  ·exact h
 exact (Nat.div_eq_of_lt_le (by rw [cL] at f;rwa [cL]) ht).symm
theorem EW {a c r1 r2 r3 r4:Nat}(h1:r1=a%18446744073709551616)(h2:r2=(r1+b)%18446744073709551616)(h3:r3=c%18446744073709551616)(h4:r4=(r2+(18446744073709551616-r3))%18446744073709551616)(h:a+b=c+d)(hd:d≤18446744073709551615):r4=d:=by
 omega
theorem IX (hy:y≠0)(hs:s+cV y=64):y*2^s<18446744073709551616∧9223372036854775808≤y*2^s:=by
 have h1:=pQ y
 have h2:=zG hy
 have hb:cV y≠0:=fun h=>hy (nO.1 h)
 have e:y*2^s<2^cV y*2^s:=sI h1 (mB s)
 have f:2^(cV y-1)*2^s≤y*2^s:=eI _ h2
 rw [←dU,show cV y+s=64 from by omega] at e
 rw [←dU,show cV y-1+s=63 from by omega] at f
 exact⟨e,f⟩
theorem DG (hs:s+cV y=64)(hyy:yy=y*2^s%18446744073709551616)(h1:yn1=yy/2^32)(hy:y≠0:=by omega):yy=y*2^s∧2147483648≤yn1:=by
 obtain⟨a,b⟩:=IX hy hs
 rw [gN a] at hyy
 refine⟨hyy,?_⟩
 rw [h1,hyy];omega
theorem a0q (x:Nat):x&&& 4294967295=x%4294967296:=Nat.and_two_pow_sub_one_eq_mod x 32
theorem QF {lo:Nat}(hs:s≤64):lo*2^s=lo/2^(64-s)*18446744073709551616+lo*2^s%18446744073709551616:=by
 have e:lo*2^s/18446744073709551616=lo/2^(64-s):=by
  have h:(18446744073709551616:Nat)=2^(64-s)*2^s:=by rw [←dU,show 64-s+s=64 from by omega]
  conv=>lhs;rw [h]
  exact EH _ _ (mB s)
 rw [←e,cL (lo*2^s/18446744073709551616)]
 exact (mV _ _).symm
theorem Z5 {lo r46 r49 r50:Nat}(hlt:hi<y)(hlo:lo≤18446744073709551615)(hs:s+cV y=64)(hs64:s≤64)(hyy:yy=y*2^s%18446744073709551616)(h1:yn1=yy/2^32)(h0:yn0=yy&&& 4294967295)(h46:r46=hi*2^s%18446744073709551616)(h49:r49=(64+(18446744073709551616-s))%18446744073709551616)(h50:r50=lo/2^r49)(hu:u=r46||| r50)(h10:un10=lo*2^s%18446744073709551616)(hu1:un1=un10/2^32)(hu0:un0=un10&&& 4294967295):yy=y*2^s∧yy=yn1*4294967296+yn0∧yn0<4294967296∧yn1<4294967296∧u<yy∧un1<4294967296∧un0<4294967296∧un10=un1*4294967296+un0∧(hi*WB+lo)*2^s=u*18446744073709551616+un10:=by
 obtain⟨r,_⟩:=DG hs hyy h1
 have q:=(IX (y:=y) (by omega) hs).1
 have f:r49=64-s:=by omega
 have p:hi*2^s<y*2^s:=sI hlt (mB s)
 have nJ:r46=hi*2^s:=by rw [h46,gN (by omega)]
 have h:=QF (lo:=lo) hs64
 rw [f] at h50
 have e:r50<2^s:=by
  rw [h50]
  refine wK ?_
  rw [←dU,show 64-s+s=64 from by omega]
  omega
 have eu:u=hi*2^s+r50:=by rw [hu,nJ,CA e]
 rw [a0q] at h0 hu0
 have eU:(hi*WB+lo)*2^s=u*18446744073709551616+un10:=by
  rw [dK,cP,h,eu,←h50,←h10,dK,sH]
  omega
 have o:u<yy:=by
  have h2:(hi+1)*2^s≤y*2^s:=eI _ hlt
  rw [nT] at h2
  omega
 refine⟨r,by omega,by omega,by omega,o,by omega,by omega,by omega,eU⟩
theorem Z6 {lo q1 v q0:Nat}(hy:0<y)(e1:yy=y*2^s)(e10:un10=un1*4294967296+un0)(eU:(hi*WB+lo)*2^s=u*18446744073709551616+un10)(hq1:u*4294967296+un1=q1*yy+v)(hq0:v*4294967296+un0=q0*yy+r)(hr:r<yy):(hi*WB+lo)/y=q1*4294967296+q0∧(hi*WB+lo)%y=r/2^s:=by
 have f:=mB s
 have o:(hi*WB+lo)*2^s=(q1*4294967296+q0)*yy+r:=by
  have q:(q1*4294967296+q0)*yy=(q1*yy)*4294967296+q0*yy:=by rw [dK,sH]
  have p:u*18446744073709551616+un1*4294967296=(u*4294967296+un1)*4294967296:=by rw [dK,bX]
  rw [eU,e10,q,←iM,p,hq1,dK,iM,hq0,iM]
 have e:0<yy:=by rw [e1];exact iL hy f
 constructor
 ·rw [←EH _ _ f,←e1,o,cL _ yy,oV e,i8 hr,fC]
 ·have h:=AA (2^s) (hi*WB+lo) y
  rw [←e1,o,cL _ yy,Nat.mul_add_mod,gN hr] at h
  rw [h,Nat.mul_div_cancel _ f]
def EE (hi lo y:Nat)(w:a6)(e:dL)(w':a6):Prop:=
 ∃q r:Nat,Hid (q=(hi*WB+lo)/y)∧Hid (r=(hi*WB+lo)%y)∧q≤18446744073709551615∧r<y∧e= .returned (.tuple #[up (q:Int),up (r:Int)])∧∃m,w'=w.drewN m
theorem Z3 {lo:Nat}(hlo:lo≤18446744073709551615)(hy:1≤y)(hyb:y≤18446744073709551615)(w:a6):aP aN 264 #[up 0,up (lo:Int),up (y:Int)] w (EE 0 lo y w):=by
 have h1:((y:Int)==0)=false:=by simp;omega
 have h2:¬(y:Int)≤0:=by omega
 have h3:(lo:Int)/(y:Int)≤(lo:Int):=Int.ediv_le_self _ (by omega)
 have h4:0≤(lo:Int)/(y:Int):=Int.ediv_nonneg (by omega) (by omega)
 have h5:=Int.emod_nonneg (lo:Int) (b:=(y:Int)) (by omega)
 have h6:=Int.emod_lt_of_pos (lo:Int) (b:=(y:Int)) (by omega)
 go_enter Tryz.func264,Tryz.ntmps264
 go_wp2_with fail
 go_quiet (fail)
 go_wp2_with fail
 go_ret2
 refine⟨lo/y,lo%y,by simp [Hid],by simp [Hid],?_,f7 _ hy,by simp,_,rfl⟩
 have:=fH lo y
 omega
theorem Guess.fin (e:yy=yn1*4294967296+yn0)(h0:yn0<4294967296)(hyy:0<yy)(hu:u<yy)(hun:un<4294967296)(hG:Guess 4294967296 yn1 yn0 u un q r)(hd:(q<4294967296∧q*yn0≤4294967296*r+un)∨(q≤4294967296∧4294967296≤r)):q≤4294967295∧∃v,Hid (u*4294967296+un=q*yy+v)∧v<yy:=by
 obtain⟨a,b⟩:=hG.done h0 hd
 rw [←e] at a b
 refine⟨?_,u*4294967296+un-q*yy,?_,?_⟩
 ·have:q<4294967296:=by
   rw [a]
   refine wK ?_
   have:=eI 4294967296 (nU hu)
   rw [nT] at this
   omega
  omega
 ·show _=_
  omega
 ·have:=qE (u*4294967296+un) hyy
  rw [←a,cI,dV,cL yy q] at this
  omega
theorem IB {r65 rh:Nat}(hy:0<y)(hu:u≤18446744073709551615)(e1:q=u/y)(e2:r65=q*y%18446744073709551616)(e3:rh=(u+(18446744073709551616-r65))%18446744073709551616):rh=u%y:=by
 have e:=mV u y
 rw [e1,cL] at e2
 have f:=f7 u hy
 generalize y*(u/y)=a at*
 generalize u%y=b at*
 omega
theorem Z4 {lo:Nat}(hhi:1≤hi)(hlt:hi<y)(hlo:lo≤18446744073709551615)(hyb:y≤18446744073709551615)(w:a6):aP aN 264 #[up (hi:Int),up (lo:Int),up (y:Int)] w (EE hi lo y w):=by
 have h1:((y:Int)==0)=false:=by simp;omega
 have h2:¬(y:Int)≤(hi:Int):=by omega
 have h3:((hi:Int)==0)=false:=by simp;omega
 go_enter Tryz.func264,Tryz.ntmps264
 go_wp2_with fail
 refine (bits_LeadingZeros64 y hyb _).mono ?_
 rintro e w' ⟨s,hs,hs64,rfl,rfl⟩
 go_upto_block 0 with (first
  | ((with_reducible refine d5 (some 39) ?_);refine eC rfl rfl rfl rfl rfl (qQ hs64) ?_;intro yy hyy hyyb)
  | ((with_reducible refine d5 (some 41) ?_);refine eC rfl rfl rfl rfl rfl (oD (s:=32) (by omega)) ?_;intro yn1 hyn1 hyn1b)
  | ((with_reducible refine d5 (some 43) ?_);refine eC rfl rfl rfl rfl rfl (FH (y:=4294967295) hyyb (by omega)) ?_ (hf:=(by have:=Nat.and_le_left (n:=yy) (m:=4294967295);omega));intro yn0 hyn0 hyn0b)
  | ((with_reducible refine d5 (some 46) ?_);refine eC rfl rfl rfl rfl rfl (qQ hs64) ?_;intro r46 h46 hb46)
  | ((with_reducible refine d5 (some 49) ?_);refine eC rfl rfl rfl rfl rfl (qP (x:=64) (y:=s) (by omega)) ?_;intro r49 h49 hb49)
  | ((with_reducible refine d5 (some 50) ?_);refine eC rfl rfl rfl rfl rfl (oD (s:=r49) (by rw [h49.out];omega)) ?_ (hf:=(by have:=fH lo (2^r49);omega));intro r50 h50 hb50)
  | ((with_reducible refine d5 (some 51) ?_);refine eC rfl rfl rfl rfl rfl (uL hb46 hb50) ?_ (hf:=(by have:=qC (n:=64) (x:=r46) (y:=r50) (by omega) (by omega);omega));intro u hu hub)
  | ((with_reducible refine d5 (some 54) ?_);refine eC rfl rfl rfl rfl rfl (qQ hs64) ?_;intro un10 h10 hb10)
  | ((with_reducible refine d5 (some 56) ?_);refine eC rfl rfl rfl rfl rfl (oD (s:=32) (by omega)) ?_;intro un1 hun1 hun1b)
  | ((with_reducible refine d5 (some 58) ?_);refine eC rfl rfl rfl rfl rfl (FH (y:=4294967295) hb10 (by omega)) ?_ (hf:=(by have:=Nat.and_le_left (n:=un10) (m:=4294967295);omega));intro un0 hun0 hun0b)
  | ((with_reducible refine d5 (some 61) ?_);refine eC rfl rfl rfl rfl rfl (FF (by have:=(DG hs.out hyy.out hyn1.out).2;omega) hub) ?_ (hf:=(by have:=fH u yn1;omega));intro q1 hq1 hq1b)
  | ((with_reducible refine d5 (some 65) ?_);refine eC rfl rfl rfl rfl rfl sO ?_;intro r65 h65 hb65)
  | ((with_reducible refine d5 (some 66) ?_);refine eC rfl rfl rfl rfl rfl (qP (by omega)) ?_;intro rh hrh hrhb))
 have hN:=Z5 hlt hlo hs.out hs64 hyy.out hyn1.out hyn0.out h46.out h49.out h50.out hu.out h10.out hun1.out hun0.out
 have hyn1lo:=(DG hs.out hyy.out hyn1.out).2
 obtain⟨n1,n2,n3,n4,n5,n6,n7,n8,n9⟩:=hN
 have N1:=Lib.hid n1
 have N2:=Lib.hid n2
 have N3:=Lib.hid n3
 have N5:=Lib.hid n5
 have N6:=Lib.hid n6
 have NL:=Lib.hid hyn1lo
 have hyylo:0<yy:=by omega
 have hyn1hi:(yn1:Int)≤4294967295:=by omega
 have hyn1pos:0<yn1:=by omega
 have hun1hi:(un1:Int)≤4294967295:=by omega
 have hyn0hi:(yn0:Int)≤4294967295:=by omega
 have hun0hi:(un0:Int)≤4294967295:=by omega
 have N8:=Lib.hid n8
 have N9:=Lib.hid n9
 have hq1':Hid (q1=u/yn1):=hq1
 have hrh':Hid (rh=u%yn1):=IB (by omega) hub hq1.out h65.out hrh.out
 clear n1 n2 n3 n4 n5 n6 n7 n8 n9 hyn1lo hyy hyn1 hyn0 h46 h49 h50 hu h10 hun1 hun0 h65 hrh hq1
 clear hb46 hb49 hb50 hb65 hrhb hq1b h1 h2 h3
 go_cut [15,16] (fun a b wc=>∃q r v:Nat,a= up (q:Int)∧b= up (r:Int)∧q≤4294967295∧Hid (u*4294967296+un1=q*yy+v)∧v<yy∧w=wc)
 case first=>
  have HG0:=Lib.hid (Guess.start (B:=4294967296) (yn1:=yn1) (yn0:=yn0) (u:=u) (un:=un1) (by omega) (by have:=NL.out;omega) N6.out (by rw [←N2.out];exact N5.out) N3.out)
  refine wp_block ?_
  go_wp2_with fail
  go_loop [15,16] (fun a b=>∃q r:Nat,a= up (q:Int)∧b= up (r:Int)∧q≤4294967297∧r≤4294967295∧Hid (Guess 4294967296 yn1 yn0 u un1 q r)) (fun a b=>(intOf a).toNat)
  case atStart=>exact⟨q1,rh,rfl,rfl,by have:=HG0.out.qb;rw [hq1'.out];omega,by rw [hrh'.out];have:=f7 u (show 0<yn1 by omega);omega,by rw [hq1'.out,hrh'.out];exact HG0⟩
  case round=>
   obtain⟨q,r,rfl,rfl,hq,hr,hG⟩:=hrel
   by_cases hqB:(4294967296:Int)≤(q:Int)
   ·have HS:=Lib.hid (hG.out.step N6.out (by rw [←N2.out];exact N5.out) (cH (by omega)) (by omega))
    have HQ:=Lib.hid hq
    by_cases hrB:(4294967296:Int)≤(r:Int)+(yn1:Int)
    ·go_upto_region 20 with (fail)
     have HQB:=Lib.hid hqB
     clear hqB
     go_wp2_with fail
     go_meet
     case rel=>
      obtain⟨a,v,b,c⟩:=Guess.fin N2.out N3.out hyylo N5.out N6.out HS.out (cO ⟨by have:=HQB.out;omega,by omega⟩)
      exact⟨q-1,r+yn1,v,fQ (h:=(by have:=HQB.out;omega)),fQ,a,b,c,rfl⟩
    ·go_upto_region 20 with (fail)
     have HQB:=Lib.hid hqB
     clear hqB
     go_wp2_with fail
     go_round
     case rel=>exact⟨q-1,r+yn1,fQ (h:=(by have:=HQB.out;omega)),fQ,by omega,by omega,HS⟩
     case measure=>have:=HQB.out;simp [intOf];omega
   ·have hp1:(q:Int)*(yn0:Int)≤18446744065119617025:=by
     have h:q*yn0≤4294967295*4294967295:=jP (by omega) (by omega)
     rw [←mX];omega
    have hp0:0≤(q:Int)*(yn0:Int):=Int.mul_nonneg (by omega) (by omega)
    by_cases hT:4294967296*r+un1<q*yn0
    ·have hTi:4294967296*(r:Int)+(un1:Int)<(q:Int)*(yn0:Int):=by rw [←mX];omega
     have hqp:=Guess.pos (B:=4294967296) (r:=r) (un:=un1) (by omega) (cO hT)
     have HS:=Lib.hid (hG.out.step N6.out (by rw [←N2.out];exact N5.out) (cO hT) hqp)
     clear hT
     by_cases hrB:(4294967296:Int)≤(r:Int)+(yn1:Int)
     ·go_wp2_with fail
      go_meet
      case rel=>
       obtain⟨a,v,b,c⟩:=Guess.fin N2.out N3.out hyylo N5.out N6.out HS.out (cO ⟨by omega,by omega⟩)
       exact⟨q-1,r+yn1,v,fQ,fQ,a,b,c,rfl⟩
     ·go_wp2_with fail
      go_round
      case rel=>exact⟨q-1,r+yn1,fQ,fQ,by omega,by omega,HS⟩
      case measure=>simp [intOf];omega
    ·have hTi:¬4294967296*(r:Int)+(un1:Int)<(q:Int)*(yn0:Int):=by rw [←mX];omega
     have HT:=Lib.hid (show q*yn0≤4294967296*r+un1 by omega)
     clear hT
     go_wp2_with fail
     go_meet
     case rel=>
      obtain⟨a,v,b,c⟩:=Guess.fin N2.out N3.out hyylo N5.out N6.out hG.out (cH ⟨by omega,HT.out⟩)
      exact⟨q,r,v,rfl,rfl,a,b,c,rfl⟩
 case rest=>
  obtain⟨qa,ra,v,rfl,rfl,hqa,hv,hvy,rfl⟩:=hcut
  clear hq1' hrh'
  go_upto_block 2 with (first
   | ((with_reducible refine d5 (some 87) ?_);refine eC rfl rfl rfl rfl rfl sO ?_;intro r87 h87 hb87)
   | ((with_reducible refine d5 (some 89) ?_);refine eC rfl rfl rfl rfl rfl B5 ?_;intro r89 h89 hb89)
   | ((with_reducible refine d5 (some 92) ?_);refine eC rfl rfl rfl rfl rfl sO ?_;intro r92 h92 hb92)
   | ((with_reducible refine d5 (some 93) ?_);refine eC rfl rfl rfl rfl rfl (qP (by omega)) ?_;intro v' hv' hbv';obtain rfl:v'=v:=EW h87.out h89.out h92.out hv'.out hv.out (by omega))
   | ((with_reducible refine d5 (some 96) ?_);refine eC rfl rfl rfl rfl rfl (FF (by omega) (by omega)) ?_ (hf:=(by have:=fH v' yn1;omega));intro q2 hq2 hq2b)
   | ((with_reducible refine d5 (some 100) ?_);refine eC rfl rfl rfl rfl rfl sO ?_;intro r100 h100 hb100)
   | ((with_reducible refine d5 (some 101) ?_);refine eC rfl rfl rfl rfl rfl (qP (by omega)) ?_;intro rh2 hrh2 hrhb2))
  have hq2':Hid (q2=v'/yn1):=hq2
  have hrh2':Hid (rh2=v'%yn1):=IB (by omega) (by omega) hq2.out h100.out hrh2.out
  have NV:=Lib.hid hvy
  have N7:=Lib.hid (show un0<4294967296 by omega)
  clear hvy hrh2 hq2 h100 h87 h89 h92 hv' hb87 hb89 hb92 hbv' hb100 hrhb2 hq2b
  go_cut [18,16] (fun a b wc=>∃q r v:Nat,a= up (q:Int)∧b= up (r:Int)∧q≤4294967295∧Hid (v'*4294967296+un0=q*yy+v)∧v<yy∧w=wc)
  case first=>
   have HG0:=Lib.hid (Guess.start (B:=4294967296) (yn1:=yn1) (yn0:=yn0) (u:=v') (un:=un0) (by omega) (by have:=NL.out;omega) N7.out (by rw [←N2.out];exact NV.out) N3.out)
   refine wp_block ?_
   go_wp2_with fail
   go_loop [18,16] (fun a b=>∃q r:Nat,a= up (q:Int)∧b= up (r:Int)∧q≤4294967297∧r≤4294967295∧Hid (Guess 4294967296 yn1 yn0 v' un0 q r)) (fun a b=>(intOf a).toNat)
   case atStart=>exact⟨q2,rh2,rfl,rfl,by have:=HG0.out.qb;rw [hq2'.out];omega,by rw [hrh2'.out];have:=f7 v' (show 0<yn1 by omega);omega,by rw [hq2'.out,hrh2'.out];exact HG0⟩
   case round=>
    obtain⟨q,r,rfl,rfl,hq,hr,hG⟩:=hrel
    by_cases hqB:(4294967296:Int)≤(q:Int)
    ·have HS:=Lib.hid (hG.out.step N7.out (by rw [←N2.out];exact NV.out) (cH (by omega)) (by omega))
     have HQ:=Lib.hid hq
     by_cases hrB:(4294967296:Int)≤(r:Int)+(yn1:Int)
     ·go_upto_region 27 with (fail)
      have HQB:=Lib.hid hqB
      clear hqB
      go_wp2_with fail
      go_meet
      case rel=>
       obtain⟨a,v,b,c⟩:=Guess.fin N2.out N3.out hyylo NV.out N7.out HS.out (cO ⟨by have:=HQB.out;omega,by omega⟩)
       exact⟨q-1,r+yn1,v,fQ (h:=(by have:=HQB.out;omega)),fQ,a,b,c,rfl⟩
     ·go_upto_region 27 with (fail)
      have HQB:=Lib.hid hqB
      clear hqB
      go_wp2_with fail
      go_round
      case rel=>exact⟨q-1,r+yn1,fQ (h:=(by have:=HQB.out;omega)),fQ,by omega,by omega,HS⟩
      case measure=>have:=HQB.out;simp [intOf];omega
    ·have hp1:(q:Int)*(yn0:Int)≤18446744065119617025:=by
      have h:q*yn0≤4294967295*4294967295:=jP (by omega) (by omega)
      rw [←mX];omega
     have hp0:0≤(q:Int)*(yn0:Int):=Int.mul_nonneg (by omega) (by omega)
     by_cases hT:4294967296*r+un0<q*yn0
     ·have hTi:4294967296*(r:Int)+(un0:Int)<(q:Int)*(yn0:Int):=by rw [←mX];omega
      have hqp:=Guess.pos (B:=4294967296) (r:=r) (un:=un0) (by omega) (cO hT)
      have HS:=Lib.hid (hG.out.step N7.out (by rw [←N2.out];exact NV.out) (cO hT) hqp)
      clear hT
      by_cases hrB:(4294967296:Int)≤(r:Int)+(yn1:Int)
      ·go_wp2_with fail
       go_meet
       case rel=>
        obtain⟨a,v,b,c⟩:=Guess.fin N2.out N3.out hyylo NV.out N7.out HS.out (cO ⟨by omega,by omega⟩)
        exact⟨q-1,r+yn1,v,fQ,fQ,a,b,c,rfl⟩
      ·go_wp2_with fail
       go_round
       case rel=>exact⟨q-1,r+yn1,fQ,fQ,by omega,by omega,HS⟩
       case measure=>simp [intOf];omega
     ·have hTi:¬4294967296*(r:Int)+(un0:Int)<(q:Int)*(yn0:Int):=by rw [←mX];omega
      have HT:=Lib.hid (show q*yn0≤4294967296*r+un0 by omega)
      clear hT
      go_wp2_with fail
      go_meet
      case rel=>
       obtain⟨a,v,b,c⟩:=Guess.fin N2.out N3.out hyylo NV.out N7.out hG.out (cH ⟨by omega,HT.out⟩)
       exact⟨q,r,v,rfl,rfl,a,b,c,rfl⟩
  case rest=>
   obtain⟨qb,rb,r,rfl,rfl,hqb,hr,hry,rfl⟩:=hcut
   clear hq2' hrh2'
   have HR:=Lib.hid hry
   clear hry
   go_wp2_with (first
    | ((with_reducible refine d5 (some 126) ?_);refine eC rfl rfl rfl rfl rfl sO ?_;intro r126 h126 hb126)
    | ((with_reducible refine d5 (some 128) ?_);refine eC rfl rfl rfl rfl rfl B5 ?_;intro r128 h128 hb128)
    | ((with_reducible refine d5 (some 131) ?_);refine eC rfl rfl rfl rfl rfl sO ?_;intro r131 h131 hb131)
    | ((with_reducible refine d5 (some 132) ?_);refine eC rfl rfl rfl rfl rfl (qP (by omega)) ?_;intro r' hr' hbr';obtain rfl:r'=r:=EW h126.out h128.out h131.out hr'.out hr.out (by have:=HR.out;omega))
    | ((with_reducible refine d5 (some 134) ?_);refine eC rfl rfl rfl rfl rfl (oD hs64) ?_ (hf:=(by have:=fH r' (2^s);omega));intro rr hrr hrrb))
   go_ret2
   obtain⟨e1,e2⟩:=Z6 (by omega) N1.out N8.out N9.out hv.out hr.out HR.out
   have hy0:0<y:=by omega
   refine⟨_,_,e1.symm,e2.symm,by omega,?_,?_,0,rfl⟩
   ·rw [←e2];exact f7 _ hy0
   ·rw [←hrr.out];simp
theorem MD {lo:Nat}(hlt:hi<y)(hlo:lo≤18446744073709551615)(hyb:y≤18446744073709551615)(w:a6):aP aN 264 #[up (hi:Int),up (lo:Int),up (y:Int)] w (EE hi lo y w):=by
 rcases jQ hi with e | e
 ·subst e;exact Z3 hlo (by omega) hyb w
 ·exact Z4 e hlt hlo hyb w
end
section
def nb (b:Nat):List Nat→Nat
 | []=>0
 | x::r=>x+b*nb b r
def Wfb (b:Nat)(xs:List Nat):Prop:=∀x∈xs,x<b
theorem xY (b:Nat):nb b []=0:=rfl
theorem lJ (b x:Nat)(r:List Nat):nb b (x::r)=x+b*nb b r:=rfl
theorem uZ (xs:List Nat):nv xs=nb WB xs:=by
 induction xs with
 | nil=>rfl
 | cons x r ih=>rw [pO,lJ,ih]
theorem vC (b:Nat)(xs ys:List Nat):nb b (xs++ys)=nb b xs+b^xs.length*nb b ys:=by
 induction xs with
 | nil=>simp [nb]
 | cons x r ih=>
  simp only [uE,nb,ih,eN,cW]
  rw [cI,←bX,cL b (b^r.length),iM]
theorem oL (h:Wfb b xs):nb b xs<b^xs.length:=by
 induction xs with
 | nil=>simp [nb]
 | cons x r ih=>
  have hx:x<b:=h x (by simp)
  have hr:=ih (fun y e=>h y (by simp [e]))
  simp only [nb,eN,cW]
  have:b*nb b r+b≤b*b^r.length:=by
   have:=fJ b (nU hr)
   rw [qD] at this;exact this
  rw [cL (b^r.length)]
  omega
theorem vA (b n:Nat):nb b (cJ n 0)=0:=by
 induction n with
 | zero=>rfl
 | succ n ih=>simp [AF,nb,ih]
theorem CH (b:Nat)(xs:List Nat)(x:Nat):nb b (xs++ [x])=nb b xs+b^xs.length*x:=by
 rw [vC];simp [nb]
def pV (b:Nat):Nat→Nat→List Nat
 | 0,_=> []
 | f+1,n=>if n=0 then [] else n%b::pV b f (n/b)
def db (b n:Nat):List Nat:=pV b n n
theorem LI (hb:2≤b)(f:Nat):∀(g n:Nat),n≤f→n≤g→pV b f n=pV b g n:=by
 induction f with
 | zero=>
  intro g n h _
  have:n=0:=by omega
  subst this
  cases g <;> simp [pV]
 | succ f ih=>
  intro g n h hg
  by_cases h0:n=0
  ·subst h0;cases g <;> simp [pV]
  ·cases g with
   | zero=>omega
   | succ g=>
    have e:n/b<n:=kI (by omega) (by omega)
    simp only [pV,h0,if_false]
    rw [ih g (n/b) (by omega) (by omega)]
theorem jH (b:Nat):db b 0= []:=rfl
theorem lN (hb:2≤b)(h:n≠0):db b n=n%b::db b (n/b):=by
 have e:n/b<n:=kI (by omega) (by omega)
 unfold db
 conv=>lhs;rw [LI hb n (n+1) n (aZ _) (by omega)]
 simp only [pV,h,if_false]
 rw [LI hb n (n/b) (n/b) (by omega) (aZ _)]
theorem yY (hb:2≤b){p:Nat→Prop}(h0:p 0)(hs:∀n,n≠0→p (n/b)→p n)(n:Nat):p n:=by
 induction n using sG with
 | ind n ih=>
  by_cases h:n=0
  ·subst h;exact h0
  ·exact hs n h (ih _ (kI (by omega) (by omega)))
theorem gI (hb:2≤b)(n:Nat):nb b (db b n)=n:=by
 induction n using yY hb with
 | h0=>rfl
 | hs n h ih=>rw [lN hb h,lJ,ih];exact iS n b
theorem jX (hb:2≤b)(n:Nat):Wfb b (db b n):=by
 induction n using yY hb with
 | h0=>intro x hx;cases hx
 | hs n h ih=>
  rw [lN hb h]
  intro x hx
  cases mW.1 hx with
  | inl e=>subst e;exact f7 _ (by omega)
  | inr e=>exact ih x e
theorem DM (hb:2≤b):db b n= []↔n=0:=by
 constructor
 ·intro h;rw [←gI hb n,h];rfl
 ·rintro rfl;rfl
theorem rJ (hb:2≤b):(db b n).length=0↔n=0:=by
 rw [sM];exact DM hb
theorem LH {b:Nat}(hb:2≤b):∀{xs:List Nat},Wfb b xs→(∀h:xs≠ [],xs.getLast h≠0)→db b (nb b xs)=xs
 | [],_,_=>rfl
 | [x],hw,ht=>by
  have hx:x<b:=hw x (by simp)
  have h0:x≠0:=ht (by simp)
  simp only [nb,gM,fC]
  rw [lN hb h0,gN hx,i8 hx,jH]
 | x::y::r,hw,ht=>by
  have f:0<b:=by omega
  have hx:x<b:=hw x (by simp)
  have ih:=LH hb (xs:=y::r) (fun z p=>hw z (by simp [p])) (fun h=>by have:=ht (by simp);simpa [List.getLast_cons] using this)
  have o:nb b (y::r)≠0:=by
   intro e
   rw [e,jH] at ih
   cases ih
  have hn:nb b (x::y::r)≠0:=by
   rw [lJ]
   have:0<b*nb b (y::r):=iL f (by omega)
   omega
  rw [lN hb hn,lJ,AB,gN hx,AC _ _ f,i8 hx,eJ,ih]
theorem DL (hb:2≤b)(hw:Wfb b xs)(ht:xs.length=0∨xs.getD (xs.length-1) 0≠0):db b (nb b xs)=xs:=by
 refine LH hb hw (fun h=>?_)
 have hl:xs.length≠0:=by simpa using h
 rcases ht with h' | h'
 ·exact absurd h' hl
 ·rw [NB]
  have:xs.length-1<xs.length:=by omega
  rwa [bK,cC this,oU] at h'
theorem yV (hb:2≤b)(n:Nat):(db b n).length=0∨(db b n).getD ((db b n).length-1) 0≠0:=by
 induction n using yY hb with
 | h0=>exact cH rfl
 | hs n h ih=>
  right
  rw [lN hb h]
  rcases ih with h' | h'
  ·have h2:n/b=0:=(rJ hb).1 h'
   have f:n<b:=(Nat.div_eq_zero_iff.1 h2).resolve_left (by omega)
   rw [h2,jH]
   simp only [List.length_singleton,Nat.sub_self]
   show n%b≠0
   rw [gN f];exact h
  ·have hl:(db b (n/b)).length≠0:=fun e=>by
    rw [sM.1 e] at h';simp at h'
   obtain⟨k,o⟩:∃k,(db b (n/b)).length=k+1:=⟨_,(Nat.succ_pred_eq_of_ne_zero hl).symm⟩
   have e:(db b (n/b)).length-1=k:=by omega
   rw [e] at h'
   rw [eN,o,mC]
   simpa using h'
theorem jM (h:Wfb b xs)(k:Nat):Wfb b (xs.take k):=fun x hx=>h x (qG hx)
theorem E5 (h:Wfb b xs)(k:Nat):Wfb b (xs.drop k):=fun x hx=>h x (qH hx)
theorem zO (h:Wfb b xs)(k:Wfb b ys):Wfb b (xs++ys):=fun x hx=>by
 rcases nV.1 hx with e | e
 ·exact h x e
 ·exact k x e
theorem i6 (h:Wfb b xs)(i:Nat)(hb:0<b:=by decide):xs.getD i 0<b:=by
 by_cases hi:i<xs.length
 ·rw [bK,cC hi];exact h _ (mD hi)
 ·rw [bK,k8 (by omega)];exact hb
theorem E4 (b:Nat):Wfb b []:=fun x hx=>by cases hx
theorem oR (n:Nat)(hb:0<b:=by decide):Wfb b (cJ n 0):=fun x hx=>by rw [(EI.1 hx).2];exact hb
theorem a0v (h:x<b):Wfb b [x]:=fun y e=>by rw [oY.1 e];exact h
theorem i0 (h:Wfb b xs)(i:Nat)(hx:x<b:=by omega):Wfb b (xs.set i x):=fun y f=>by
 rcases NA f with e | e
 ·exact h y e
 ·rw [e];exact hx
theorem hZ (b:Nat)(xs:List Nat)(k:Nat)(h:k<xs.length):nb b (xs.take (k+1))=nb b (xs.take k)+b^k*xs.getD k 0:=by
 rw [uM xs k h 0,CH,dH,gD (by omega)]
theorem mO (b:Nat)(xs:List Nat)(k:Nat)(h:k≤xs.length:=by omega):nb b xs=nb b (xs.take k)+b^k*nb b (xs.drop k):=by
 have:=vC b (xs.take k) (xs.drop k)
 rw [sK,dH,gD h] at this
 exact this
theorem xX (b:Nat)(xs:List Nat)(k:Nat)(h:k<xs.length)(h0:xs.getD k 0=0):nb b (xs.take (k+1))=nb b (xs.take k):=by
 rw [hZ b xs k h,h0];simp
theorem tC (h:Wfb b xs)(k:Nat)(hb:0<b:=by decide):nb b (xs.take k)<b^k:=by
 have h1:=oL (jM h k)
 have h2:b^(xs.take k).length≤b^k:=eS hb (by rw [dH];omega)
 omega
theorem yW (hb:2≤b)(hw:Wfb b xs)(hk:k≤xs.length)(hv:nb b (xs.take k)=nb b xs)(ht:k=0∨xs.getD (k-1) 0≠0):db b (nb b xs)=xs.take k:=by
 have hl:(xs.take k).length=k:=by rw [dH];omega
 rw [←hv]
 refine DL hb (jM hw k) ?_
 rw [hl]
 rcases ht with h | h
 ·exact cH h
 ·by_cases h0:k=0
  ·exact cH h0
  ·refine cO ?_
   rw [bK,kY,if_pos (by omega),←bK]
   exact h
theorem kD (hb : 2 ≤ b)(h : n < b ^ k): (db b n).length ≤ k := by
  induction k generalizing n with
  | zero => have : n = 0 := by simp at h; omega
            subst this; simp [jH]
  | succ k ih =>
    by_cases h0 : n = 0
    · subst h0; simp [jH]
    · rw [lN hb h0, eN]
      have : n / b < b ^ k := by rw [uB (by omega)]; rwa [← cW]
      have := ih this
      omega
theorem CN (hb:2≤b)(n:Nat):n<b^(db b n).length:=by
 have:=oL (jX hb n)
 rwa [gI hb] at this
theorem IG (hb:2≤b)(h:n≠0):b^((db b n).length-1)≤n:=by
 refine oW (fun f=>?_)
 have h1:=kD hb f
 have h2:(db b n).length≠0:=fun e=>h ((rJ hb).1 e)
 omega
theorem tI (hb:2≤b)(h:x≤y):(db b x).length≤(db b y).length:=kD hb (jY h (CN hb y))
theorem DK {b:Nat}(hb:2≤b):∀{xs:List Nat}{m:Nat},Wfb b xs→m=(db b (nb b xs)).length→db b (nb b xs)=xs.take m
 | [],m,_,h=>by simp [nb,jH]
 | x::r,m,hw,h=>by
  have hx:x<b:=hw x (by simp)
  by_cases h0:nb b (x::r)=0
  ·rw [h0,jH] at h⊢
   subst h;rfl
  ·have f:nb b (x::r)/b=nb b r:=by rw [lJ,AC _ _ (by omega),i8 hx,eJ]
   have e:nb b (x::r)%b=x:=by rw [lJ,AB,gN hx]
   rw [lN hb h0,f,e] at h⊢
   obtain⟨k,rfl⟩:∃k,m=k+1:=⟨m-1,by rw [h,eN];rfl⟩
   rw [eN] at h
   rw [AD,←DK hb (fun y o=>hw y (by simp [o])) (by omega)]
theorem IZ (hb:0<b)(hx:Wfb b xs)(hkx:k<xs.length)(hky:k<ys.length)(h:xs.getD k 0<ys.getD k 0):nb b (xs.take (k+1))<nb b (ys.take (k+1)):=by
 rw [hZ b xs k hkx,hZ b ys k hky]
 have h1:=tC hx k (hb:=hb)
 have h2:b^k*xs.getD k 0+b^k≤b^k*ys.getD k 0:=by
  have:=fJ (b^k) (nU h)
  rwa [qD] at this
 omega
theorem ZH (hkx:k<xs.length)(hky:k<ys.length)(h:xs.getD k 0=ys.getD k 0):dY (nb b (xs.take (k+1))) (nb b (ys.take (k+1)))=dY (nb b (xs.take k)) (nb b (ys.take k)):=by
 rw [hZ b xs k hkx,hZ b ys k hky,h]
 unfold dY
 simp only [N4,N0]
theorem J9 (hb:2≤b)(h:(db b x).length<(db b y).length):x<y:=by
 refine mU (fun e=>?_)
 have:=tI hb e
 omega
theorem UF (b:Nat)(xs:List Nat)(n:Nat):nb b (xs++cJ n 0)=nb b xs:=by
 rw [vC,vA,gM,fC]
theorem FA (hw:Wf xs)(h:xs.length=0∨WB^(xs.length-1)≤nv xs):wd (nv xs)=xs:=by
 have h1:(wd (nv xs)).length=xs.length:=by
  have h2:=gJ hw
  rcases h with h | h
  ·omega
  ·have e:WB^(xs.length-1)<WB^(wd (nv xs)).length:=jY h (lY _)
   have:=(zZ (by decide:1<WB)).1 e
   omega
 rw [oB hw h1.symm,List.take_length]
theorem J2 (b:Nat)(es:List Nat)(p m:Nat):nb b ((es.drop p).take (m+1))=es.getD p 0+b*nb b ((es.drop (p+1)).take m):=by
 by_cases h:p<es.length
 ·rw [nW h,AD,lJ,bK,cC h];rfl
 ·rw [List.drop_eq_nil_of_le (by omega),List.drop_eq_nil_of_le (by omega),bK,k8 (by omega)]
  simp [nb]
theorem J1 (b:Nat)(es:List Nat)(p m:Nat)(h:p≤es.length):nb b (es.take (p+m))=nb b (es.take p)+b^p*nb b ((es.drop p).take m):=by
 have e:es.take (p+m)=es.take p++(es.drop p).take m:=by rw [List.take_add]
 rw [e,vC,dH,gD h]
theorem yH (h:i<k):(xs.take k).getD i 0=xs.getD i 0:=by
 simp only [bK,kY,if_pos h]
theorem tL (h:i<l.length)(x:Nat):(l.set i x).getD i 0=x:=by simp [bK,h]
theorem getD_set_ne (h:i≠j)(x:Nat):(l.set i x).getD j 0=l.getD j 0:=by simp [bK,List.getElem?_set_ne h]
theorem nG (b:Nat)(h:i<l.length)(x:Nat):nb b ((l.set i x).take (i+1))=nb b (l.take i)+b^i*x:=by
 rw [hZ b _ i (by rw [List.length_set];exact h),tL h,List.take_set_of_le (aZ i)]
theorem vB (b:Nat):∀{l:List Nat}{k:Nat},k<l.length→∀x,nb b (l.set k x)+b^k*l.getD k 0=nb b l+b^k*x
 | y::r,0,_,x=>by simp [nb];omega
 | y::r,k+1,h,x=>by
  have ih:=vB b (l:=r) (k:=k) (by simpa using h) x
  simp only [List.set_cons_succ,lJ,List.getD_cons_succ,cW]
  have e:b*(nb b (r.set k x)+b^k*r.getD k 0)=b*(nb b r+b^k*x):=by rw [ih]
  simp only [cI,←bX,cL b (b^k)] at e
  omega
theorem oK (h:k<l.length)(x:Nat):nv (l.set k x)+WB^k*l.getD k 0=nv l+WB^k*x:=by
 rw [uZ,uZ];exact vB WB h x
theorem CF (h:i<l.length)(x:Nat):nv ((l.set i x).take (i+1))=nv (l.take i)+WB^i*x:=by
 rw [eT _ i (by rw [List.length_set];exact h),tL h,List.take_set_of_le (aZ i)]
def l7 (ds:List Nat)(i t:Nat):Nat:=nb 65536 ((ds.drop (max i (4*t))).take (4*t+4-max i (4*t)))
theorem NQ:l7 ds j (j/4)=ds.getD j 0+65536*l7 ds (j+1) (j/4):=by
 unfold l7
 have f:max j (4*(j/4))=j:=by omega
 have e:max (j+1) (4*(j/4))=j+1:=by omega
 rw [f,e,show 4*(j/4)+4-j=(4*(j/4)+4-(j+1))+1 from by omega,J2]
theorem NR {t:Nat}(h:t≠j/4):l7 ds j t=l7 ds (j+1) t:=by
 unfold l7
 rcases i7 t (j/4) with h1 | h1
 ·rw [show 4*t+4-max j (4*t)=0 from by omega,show 4*t+4-max (j+1) (4*t)=0 from by omega];simp
 ·rw [show max j (4*t)=max (j+1) (4*t) from by omega]
theorem EV (hw:Wfb 65536 ds)(i t:Nat):l7 ds i t<WB:=by
 unfold l7
 have h1:=tC (E5 hw (max i (4*t))) (4*t+4-max i (4*t)) (hb:=(by omega))
 have h2:65536^(4*t+4-max i (4*t))≤65536^4:=eS (by omega) (by omega)
 have e:WB=65536^4:=by decide
 omega
theorem NS (hl:∀t,t<l.length→l.getD t 0=l7 ds 0 t)(hn:ds.length≤4*l.length)(hm:4*l.length<ds.length+4):nv l=nb 65536 ds:=by
 have key:∀t,t≤l.length→nv (l.take t)=nb 65536 (ds.take (4*t)):=by
  intro t
  induction t with
  | zero=>intro _;rfl
  | succ t ih=>
   intro ht
   rw [eT l t (by omega),ih (by omega),hl t (by omega),show 4*(t+1)=4*t+4 from by omega,J1 65536 ds (4*t) 4 (by omega)]
   unfold l7
   rw [show max 0 (4*t)=4*t from by omega,show 4*t+4-4*t=4 from by omega,show WB=65536^4 from by decide,←Nat.pow_mul]
 have h:=key l.length (aZ _)
 rwa [List.take_length,List.take_of_length_le hn] at h
end
section
open Go.RowKit
theorem iD:(Tryz.prog.info? 65).map (fun i=>(i.zero,i.size,i.bytes))=some (some (up 0),1,8):=by kernel_rfl
theorem BG:(Tryz.prog.info? 65).map (·.size)=some 1:=by kernel_rfl
def iF (w:a6)(m:Nat)(e:dL)(w':a6):Prop:=
 ∃A n cap,e= .returned (we A n cap)∧Hid (n=(wd m).length)∧Rd w' A n cap (wd m)∧Own w' w.heap.size 65 1 A n cap ((wd m).map bF)∧Ext w w'
theorem sB (hg:w.heap.size≤g)(hb:Bk w' g 65 (ys.map bF))(hl:ys.length=cap)(hn:n≤cap)(hc:cap≤maxLen)(hy:ys.take n=wd m)(hx:Ext w w'):iF w m (.returned (we (some ⟨g,0,none⟩) n cap)) w':=by
 have e:n=(wd m).length:=by rw [←hy,dH];omega
 have f:Own w' w.heap.size 65 1 (some ⟨g,0,none⟩) n cap ((wd m).map bF):=
  Own.mk_ hg hb hn hc (by simpa using hl) (by rw [dV,←kW,hy])
 exact⟨_,_,_,rfl,e,f.rd (oS m),f,hx⟩
theorem MP (hm:m=0)(hx:Ext w w'):iF w m (.returned (we none 0 0)) w':=by
 subst hm
 exact⟨none,0,0,rfl,rfl,Rd.nil w',Own.nil w' _ _ _,hx⟩
def a0z (xs:List Nat)(n:Nat)(w:a6)(e:dL)(w':a6):Prop:=
 ∃m:Nat,Hid (m=(wd (nv xs)).length)∧m≤n∧e= .returned (no (m:Int))∧w=w'
theorem kO (hx:Rd w A n cap xs)(hl:n≤1099511627776:=by omega):aP aN 182 #[we A n cap] w (a0z xs n w):=by
 have hlen:=Lib.hid hx.len
 go_enter Tryz.func182,Tryz.ntmps182
 go_wp2_with fail
 go_loop [3] (fun u=>∃k:Nat,k≤n∧u= no (k:Int)∧nv (xs.take k)=nv xs) (fun u=>(intOf u).toNat)
 case atStart=>exact⟨n,aZ _,rfl,by rw [←hlen.out,List.take_length]⟩
 case round=>
  obtain⟨k,hk,rfl,hv⟩:=hrel
  have HV:=Lib.hid hv
  clear hv
  by_cases h0:0<k
  ·obtain⟨a,x,rfl,hxk,hxb,hc⟩:=hx.get (i:=k-1) (by omega)
   by_cases hz:x=0
   ·subst hz
    go_wp2_with fail
    go_round
    case rel=>
     refine⟨k-1,by omega,by congr 1;omega,?_⟩
     rw [←HV.out,←rB xs (k-1) (by rw [hlen.out];omega) hxk.out,jO h0]
    case measure=>simp [intOf];omega
   ·have hzb:((x:Int)==0)=false:=by simp;omega
    go_wp2_with fail
    go_ret
    refine⟨k,?_,hk,rfl,rfl⟩
    have:=uJ (k:=k) hx.wf (by rw [hlen.out];exact hk) HV.out (cO (by rw [hxk.out];exact hz))
    show k=_
    rw [this,dH,hlen.out];omega
  ·go_wp2_with fail
   go_ret
   refine⟨k,?_,hk,rfl,rfl⟩
   have:=uJ (k:=k) hx.wf (by rw [hlen.out];exact hk) HV.out (cH (by omega))
   show k=_
   rw [this,dH,hlen.out];omega
theorem UG (hx:Rd w A n cap xs)(hl:n≤1099511627776):aP aN 193 #[we A n cap] w (iF w (nv xs)):=by
 have hlen:=Lib.hid hx.len
 go_enter Tryz.func193,Tryz.ntmps193
 go_wp2_with fail
 refine (kO hx (hl:=hl)).mono ?_
 rintro e w' ⟨m,hm,hmn,rfl,rfl⟩
 have hmk:=kN (P:=aN) Tryz.underlying22 iD J (by decide) (m:Int) (by omega) (by omega)
 simp only [gZ] at hmk
 go_wp2_with ((with_reducible refine d5 (some 11) ?_);refine wU J (.tmp 9) (.tmp 10) 22 22 J J J Tryz.underlying22 BG (Bk.new' _ _ _) (hx.rv.ext (aL.alloc _)) (fun _=>rfl) ?fit (zP xs) ?_;rotate_left;intro w1 hb1 hu1)
 case fit=>simp [wT]
 go_ret
 have e:wd (nv xs)=xs.take m:=by
  have h1:=hx.wf
  have h2:m≤xs.length:=by rw [hlen.out];exact hmn
  exact oB h1 hm.out
 refine sB (g:=w.heap.size) (ys:=xs.take m) (aZ _) ?_ ?_ (aZ _) (by rw [eG];omega) ?_ (hu1.ext ((Ext.refl w).alloc _) (aZ _))
 ·have h:=hb1
  rw [wT,j7,←kW,BE,Q6 _ _ (by rw [List.length_replicate,dH,hlen.out];omega)] at h
  exact h
 ·rw [dH,hlen.out];omega
 ·rw [List.take_take,Nat.min_self,e]
theorem jB (hx:Rd w A n cap xs)(hl:n≤1099511627776:=by omega):aP aN 141 #[we A n cap] w (iF w (nv xs)):=by
 go_enter Tryz.func141,Tryz.ntmps141
 go_wp2_with fail
 refine (UG hx hl).mono ?_
 rintro e w' ⟨A1,n1,c1,rfl,h⟩
 go_wp2_with fail
 go_ret
 exact⟨A1,n1,c1,rfl,h⟩
def wF (a b:Nat)(w:a6)(e:dL)(w':a6):Prop:=
 ∃c:Int,Hid (c=dY a b)∧ -1≤c∧c≤1∧e= .returned (no c)∧Ext w w'
theorem nS {a:Nat}{c:Int}(h:dY a b=c)(hx:Ext w w'):wF a b w (.returned (no c)) w':=by
 subst h
 exact⟨_,rfl,(LR a b).1,(LR a b).2,rfl,hx⟩
theorem tD (hx:Rd w A n cap xs)(hy:Rd w B n' cap' ys)(hl:n≤1099511627776:=by omega)(hl':n'≤1099511627776:=by omega):aP aN 144 #[we A n cap,we B n' cap'] w (wF (nv xs) (nv ys) w):=by
 have hlx:=Lib.hid hx.len
 have hly:=Lib.hid hy.len
 go_enter Tryz.func144,Tryz.ntmps144
 go_wp2_with fail
 refine (kO hx (hl:=hl)).mono ?_
 rintro e w' ⟨m,hm,hmn,rfl,rfl⟩
 go_wp2_with fail
 refine (kO hy (hl:=hl')).mono ?_
 rintro e w' ⟨k,hk,hkn,rfl,rfl⟩
 rcases Nat.lt_trichotomy m k with hlt | rfl | hgt
 ·have h1:((m:Int) != (k:Int))=true:=by simp;omega
  go_wp2_with fail
  go_ret
  exact nS (zD (J8 (by rw [←hm.out,←hk.out];exact hlt))) (Ext.refl w)
 ·have h1:((m:Int) != (m:Int))=false:=by simp
  go_wp2_with fail
  go_loopw [7] (fun u wr=>∃i:Nat,i≤m∧u= no ((i:Int)-1)∧Hid (dY (nv (xs.take i)) (nv (ys.take i))=dY (nv xs) (nv ys))∧Ext w wr) (fun u wr=>(intOf u+1).toNat)
  case atStart=>exact⟨m,aZ _,rfl,(show _=_ by rw [pN hx.wf hm.out,pN hy.wf hk.out]),Ext.refl w⟩
  case round=>
   obtain⟨i,hi,rfl,hv,hext⟩:=hrel
   by_cases h0:0<i
   ·obtain⟨a,x,rfl,hxk,hxb,hc⟩:=(hx.ext hext).get (i:=i-1) (by omega)
    obtain⟨b,y,rfl,hyk,hyb,hd⟩:=(hy.ext hext).get (i:=i-1) (by omega)
    have hi':i-1+1=i:=by omega
    have hcast:((i-1:Nat):Int)=(i:Int)-1:=by omega
    have b1:(0:Int)≤(i:Int)-1:=by omega
    rcases Nat.lt_trichotomy x y with hlt | rfl | hgt
    ·go_wp2_with fail
     go_quiet (fail)
     go_wp2_with fail
     go_ret
     refine nS ?_ (by repeat (first | exact Ext.refl _ | assumption | apply Ext.drewN | apply Ext.drew | apply Ext.alloc))
     rw [←hv.out,←hi']
     exact zD (IR hx.wf (by rw [hlx.out];omega) (by rw [hly.out];omega) (by rw [hxk.out,hyk.out];exact hlt))
    ·go_wp2_with fail
     go_quiet (fail)
     go_wp2_with fail
     go_quiet (fail)
     go_wp2_with fail
     go_roundw
     case rel=>
      refine⟨i-1,by omega,by congr 1;omega,?_,(by repeat (first | exact Ext.refl _ | assumption | apply Ext.drewN | apply Ext.drew | apply Ext.alloc))⟩
      show _=_
      rw [←hv.out,←ZI (k:=i-1) (by rw [hlx.out];omega) (by rw [hly.out];omega) (by rw [hxk.out,hyk.out]),hi']
     case measure=>simp [intOf];omega
    ·go_wp2_with fail
     go_quiet (fail)
     go_wp2_with fail
     go_quiet (fail)
     go_wp2_with fail
     go_ret
     refine nS ?_ (by repeat (first | exact Ext.refl _ | assumption | apply Ext.drewN | apply Ext.drew | apply Ext.alloc))
     rw [←hv.out,←hi']
     exact zE (IR hy.wf (by rw [hly.out];omega) (by rw [hlx.out];omega) (by rw [hxk.out,hyk.out];exact hgt))
   ·go_wp2_with fail
    go_ret
    refine nS ?_ hext
    rw [←hv.out,show i=0 from by omega]
    simp [LQ]
 ·have h1:((m:Int) != (k:Int))=true:=by simp;omega
  go_wp2_with fail
  go_ret
  exact nS (zE (J8 (by rw [←hm.out,←hk.out];exact hgt))) (Ext.refl w)
theorem MI {c:Nat}(hli:i<l.length)(hxi:i<xs.length)(hmy:m≤ys.length)(h:nv (l.take i)+WB^i*c=nv (xs.take i)+nv (ys.take (min i m)))(hx:xs.getD i 0=x)(hy:(if i<m then ys.getD i 0 else 0)=y)(hs:s+WB*d=x+y+c):nv ((l.set i s).take (i+1))+WB^(i+1)*d=nv (xs.take (i+1))+nv (ys.take (min (i+1) m)):=by
 have o:(l.set i s).getD i 0=s:=by simp [bK,hli]
 have p:(l.set i s).take i=l.take i:=by rw [List.take_set_of_le (aZ i)]
 rw [eT _ i (by rw [List.length_set];exact hli),o,p,eT xs i hxi,hx]
 have q:nv (ys.take (min (i+1) m))=nv (ys.take (min i m))+WB^i*y:=by
  by_cases e:i<m
  ·rw [if_pos e] at hy
   rw [gD (by omega),gD (by omega),eT ys i (by omega),hy]
  ·rw [if_neg e] at hy
   rw [Nat.min_eq_right (by omega),Nat.min_eq_right (by omega),←hy,gM,fC]
 rw [q,cW,bX]
 have f:WB^i*(s+WB*d)=WB^i*(x+y+c):=by rw [hs]
 simp only [cI] at f
 omega
def a0H (w:a6)(S:Nat)(u v:aM)(wc:a6):Prop:=
 ∃A n cap xs B n' cap' ys,u= we A n cap∧v= we B n' cap'∧Rd wc A n cap xs∧Rd wc B n' cap' ys∧n≤1099511627775∧n'≤1099511627775∧Hid (nv xs+nv ys=S)∧(wd (nv ys)).length≤(wd (nv xs)).length∧Ext w wc
theorem y7 (hx:Rd w A n cap xs)(hl:n≤1099511627775)(hy:Rd w B n' cap' ys)(hl':n'≤1099511627775):aP aN 145 #[we A n cap,we B n' cap'] w (iF w (nv xs+nv ys)):=by
 go_enter Tryz.func145,Tryz.ntmps145
 go_upto_if 15 with (fail)
 refine (kO hx).mono ?_
 rintro e w' ⟨m,hm,hmn,rfl,rfl⟩
 go_upto_if 15 with (fail)
 refine (kO hy).mono ?_
 rintro e w' ⟨k,hk,hkn,rfl,rfl⟩
 go_upto_if 15 with (fail)
 go_cut [0,1] (fun u v wc=>a0H w (nv xs+nv ys) u v wc)
 case first=>
  by_cases hlt:m<k
  ·go_wp2_with fail
   go_meet
   case rel=>exact⟨B,n',cap',ys,A,n,cap,xs,rfl,rfl,hy,hx,hl',hl,Nat.add_comm _ _,by rw [←hm.out,←hk.out];omega,Ext.refl w⟩
  ·go_wp2_with fail
   go_meet
   case rel=>exact⟨A,n,cap,xs,B,n',cap',ys,rfl,rfl,hx,hy,hl,hl',rfl,by rw [←hm.out,←hk.out];omega,Ext.refl w⟩
 case rest=>
  clear hm hk hmn hkn hx hy hl hl'
  obtain⟨A,n,cap,xs,B,n',cap',ys,rfl,rfl,hx,hy,hl,hl',hS,hle,hext⟩:=hcut
  go_wp2_with fail
  refine (kO hx).mono ?_
  rintro e w' ⟨m,hm,hmn,rfl,rfl⟩
  go_wp2_with fail
  refine (kO hy).mono ?_
  rintro e w' ⟨k,hk,hkn,rfl,rfl⟩
  have hkm:k≤m:=by rw [hm.out,hk.out];exact hle
  have hlx:=Lib.hid hx.len
  have hly:=Lib.hid hy.len
  have hmk:=kN (P:=aN) Tryz.underlying22 iD J (by decide) ((m:Int)+1) (by omega) (by omega)
  have et:((m:Int)+1).toNat=m+1:=by omega
  rw [et] at hmk
  clear et
  go_wp2_with fail
  clear hmk
  obtain⟨g,hg⟩:∃g,wc.heap.size=g:=⟨_,rfl⟩
  rw [hg]
  obtain⟨wa,hwa⟩:∃wa,wc.alloc (.cells (zc (.int .u64 0) (m+1)) 65)=wa:=⟨_,rfl⟩
  rw [hwa]
  have hbk:Bk wa g 65 ((cJ (m+1) 0).map bF):=by
   rw [←hwa,←hg,←j7];exact Bk.new' _ _ _
  have hea:Ext wc wa:=by rw [←hwa];exact (Ext.refl wc).alloc _
  have hgs:w.heap.size≤g:=by rw [←hg];exact hext.size
  have hgc:wc.heap.size≤g:=by rw [hg];exact aZ _
  clear hg hwa
  go_loopw [26,8] (fun u v wr=>∃(i c:Nat) (l:List Nat),i≤m∧c≤1∧u= no (i:Int)∧v= up (c:Int)∧Hid (l.length=m+1)∧Wf l∧Bk wr g 65 (l.map bF)∧
   Hid (nv (l.take i)+WB^i*c=nv (xs.take i)+nv (ys.take (min i k)))∧Ext wc wr) (fun u v wr=>m-(intOf u).toNat)
  case atStart=>exact⟨0,0,_,bJ _,bJ _,rfl,rfl,List.length_replicate,mR _,hbk,by simp [Hid,nv],hea⟩
  case round=>
   obtain⟨i,c,l,hi,hc,rfl,rfl,hll,hwl,hb,hv,hr⟩:=hrel
   clear hbk hea
   by_cases him:i<m
   ·obtain⟨a,x,rfl,hxk,hxb,hcx⟩:=(hx.ext hr).get (i:=i) (by omega)
    obtain⟨o,ho,_,hco⟩:=hb.word hwl (i:=i) (by rw [hll.out];omega)
    have hfr:=hb.frozen i
    by_cases hik:i<k
    ·obtain⟨b,y,rfl,hyk,hyb,hcy⟩:=(hy.ext hr).get (i:=i) (by omega)
     go_wp2_with ((with_reducible refine d5 (some 45) ?_);refine EZ J (.tmp 42) (.tmp 43) (.tmp 44) J x y c J J J hc hxb hyb ?_;intro s d hs hsb hd)
     go_roundw
     case rel=>exact⟨i+1,d,_,by omega,hd,by go_num,rfl,by show _=_;rw [List.length_set];exact hll.out,gR hwl i (by rw [cP];omega),by rw [←dX];exact hb.set i _,
      MI (by rw [hll.out];omega) (by rw [hlx.out];omega) (by rw [hly.out];omega) hv.out hxk.out (by rw [if_pos hik];exact hyk.out) hs.out,hr.setCell hgc _⟩
     case measure=>simp [intOf];omega
    ·go_wp2_with ((with_reducible refine d5 (some 45) ?_);refine EZ J (.tmp 42) (.tmp 43) (.tmp 44) J x 0 c J J J hc hxb (by omega) ?_;intro s d hs hsb hd)
     go_roundw
     case rel=>exact⟨i+1,d,_,by omega,hd,by go_num,rfl,by show _=_;rw [List.length_set];exact hll.out,gR hwl i (by rw [cP];omega),by rw [←dX];exact hb.set i _,
      MI (by rw [hll.out];omega) (by rw [hlx.out];omega) (by rw [hly.out];omega) hv.out hxk.out (by rw [if_neg hik]) hs.out,hr.setCell hgc _⟩
     case measure=>simp [intOf];omega
   ·obtain rfl:i=m:=by omega
    obtain⟨o,ho,_,hco⟩:=hb.word hwl (i:=i) (by rw [hll.out];omega)
    have hfr:=hb.frozen i
    have hb2:=hb.set i (up (c:Int))
    rw [dX] at hb2
    have hll2:Hid ((l.set i c).length=i+1):=by show _=_;rw [List.length_set];exact hll.out
    have hwl2:Wf (l.set i c):=gR hwl i (by rw [cP];omega)
    have hr2:Rd (wr.setCell ⟨g,i,none⟩ (up (c:Int))) (some ⟨g,0,none⟩) (i+1) (i+1) (l.set i c):=by
     have:=hb2.rd hwl2 (o:=0) (n:=i+1) (cap:=i+1) (aZ _) (by rw [hll2.out];omega) (by rw [eG];omega)
     rwa [gP,List.take_of_length_le (by rw [hll2.out];omega)] at this
    have hval:Hid (nv (l.set i c)=nv xs+nv ys):=by
     show _=_
     have e1:(l.set i c).getD i 0=c:=by
      have:=hll.out
      simp [bK,this]
     have e2:(l.set i c).take i=l.take i:=by rw [List.take_set_of_le (aZ i)]
     have e3:=eT (l.set i c) i (by rw [hll2.out];omega)
     rw [e1,e2,List.take_of_length_le (by rw [hll2.out];omega),hv.out,Nat.min_eq_right hkm] at e3
     rw [e3,pN hx.wf hm.out,pN hy.wf hk.out]
    go_wp2_with fail
    refine (kO hr2).mono ?_
    rintro e w' ⟨q,hq,hqn,rfl,rfl⟩
    go_wp2_with fail
    go_ret
    rw [←hS.out,←hval.out]
    exact sB (ys:=l.set i c) hgs hb2 hll2.out hqn (by rw [eG];omega) (oB hwl2 hq.out).symm ((hext.trans hr).setCell hgs _)
def zQ (w:a6)(m:Nat)(er:Int)(e:dL)(w':a6):Prop:=
 ∃A n cap,e= .returned (.tuple #[we A n cap,no er])∧Hid (n=(wd m).length)∧Rd w' A n cap (wd m)∧Own w' w.heap.size 65 1 A n cap ((wd m).map bF)∧Ext w w'
theorem EA (h:iF w m (.returned (we A n cap)) w'):zQ w m er (.returned (.tuple #[we A n cap,no er])) w':=by
 obtain⟨A',n',c',he,r⟩:=h
 cases he
 exact⟨_,_,_,rfl,r⟩
theorem FU {c:Nat}(hli:i<l.length)(hxi:i<xs.length)(hmy:m≤ys.length)(h:nv (l.take i)+nv (ys.take (min i m))=nv (xs.take i)+WB^i*c)(hx:xs.getD i 0=x)(hy:(if i<m then ys.getD i 0 else 0)=y)(hs:s+y+c=x+WB*d):nv ((l.set i s).take (i+1))+nv (ys.take (min (i+1) m))=nv (xs.take (i+1))+WB^(i+1)*d:=by
 have o:(l.set i s).getD i 0=s:=by simp [bK,hli]
 have p:(l.set i s).take i=l.take i:=by rw [List.take_set_of_le (aZ i)]
 rw [eT _ i (by rw [List.length_set];exact hli),o,p,eT xs i hxi,hx]
 have q:nv (ys.take (min (i+1) m))=nv (ys.take (min i m))+WB^i*y:=by
  by_cases e:i<m
  ·rw [if_pos e] at hy
   rw [gD (by omega),gD (by omega),eT ys i (by omega),hy]
  ·rw [if_neg e] at hy
   rw [Nat.min_eq_right (by omega),Nat.min_eq_right (by omega),←hy,gM,fC]
 rw [q,cW,bX]
 have f:WB^i*(s+y+c)=WB^i*(x+WB*d):=by rw [hs]
 simp only [cI] at f
 omega
theorem CJ (hx:Rd w A n cap xs)(hy:Rd w B n' cap' ys)(hle:nv ys≤nv xs)(hl:n≤1099511627775:=by omega)(hl':n'≤1099511627775:=by omega):aP aN 146 #[we A n cap,we B n' cap'] w (zQ w (nv xs-nv ys) 0):=by
 go_enter Tryz.func146,Tryz.ntmps146
 go_wp2_with fail
 refine (tD hx hy).mono ?_
 rintro e wc ⟨c,hc,hc1,hc2,rfl,hx1⟩
 have hneg:¬c<0:=by rw [hc.out,lO];omega
 go_wp2_with fail
 refine (kO (hx.ext hx1)).mono ?_
 rintro e w' ⟨m,hm,hmn,rfl,rfl⟩
 go_wp2_with fail
 refine (kO (hy.ext hx1)).mono ?_
 rintro e w' ⟨k,hk,hkn,rfl,rfl⟩
 have hkm:k≤m:=by rw [hm.out,hk.out];exact gK hle
 have hlx:=Lib.hid hx.len
 have hly:=Lib.hid hy.len
 have hmk:=kN (P:=aN) Tryz.underlying22 iD J (by decide) (m:Int) (by omega) (by omega)
 rw [gZ] at hmk
 go_wp2_with fail
 clear hmk
 obtain⟨g,hg⟩:∃g,wc.heap.size=g:=⟨_,rfl⟩
 rw [hg]
 obtain⟨wa,hwa⟩:∃wa,wc.alloc (.cells (zc (.int .u64 0) m) 65)=wa:=⟨_,rfl⟩
 rw [hwa]
 have hbk:Bk wa g 65 ((cJ m 0).map bF):=by
  rw [←hwa,←hg,←j7];exact Bk.new' _ _ _
 have hea:Ext wc wa:=by rw [←hwa];exact (Ext.refl wc).alloc _
 have hgs:w.heap.size≤g:=by rw [←hg];exact hx1.size
 have hgc:wc.heap.size≤g:=by rw [hg];exact aZ _
 clear hg hwa hc hneg hc1 hc2
 go_loopw [23,9] (fun u v wr=>∃(i c:Nat) (l:List Nat),i≤m∧c≤1∧u= no (i:Int)∧v= up (c:Int)∧Hid (l.length=m)∧Wf l∧Bk wr g 65 (l.map bF)∧
  Hid (nv (l.take i)+nv (ys.take (min i k))=nv (xs.take i)+WB^i*c)∧Ext wc wr) (fun u v wr=>m-(intOf u).toNat)
 case atStart=>exact⟨0,0,_,bJ _,bJ _,rfl,rfl,List.length_replicate,mR _,hbk,by simp [Hid,nv],hea⟩
 case round=>
  obtain⟨i,c,l,hi,hc,rfl,rfl,hll,hwl,hb,hv,hr⟩:=hrel
  clear hbk hea
  by_cases him:i<m
  ·obtain⟨a,x,rfl,hxk,hxb,hcx⟩:=((hx.ext hx1).ext hr).get (i:=i) (by omega)
   obtain⟨o,ho,_,hco⟩:=hb.word hwl (i:=i) (by rw [hll.out];omega)
   have hfr:=hb.frozen i
   by_cases hik:i<k
   ·obtain⟨b,y,rfl,hyk,hyb,hcy⟩:=((hy.ext hx1).ext hr).get (i:=i) (by omega)
    go_wp2_with ((with_reducible refine d5 (some 42) ?_);refine EX J (.tmp 39) (.tmp 40) (.tmp 41) J x y c J J J hc hxb hyb ?_;intro s d hs hsb hd)
    go_roundw
    case rel=>exact⟨i+1,d,_,by omega,hd,by go_num,rfl,by show _=_;rw [List.length_set];exact hll.out,gR hwl i (by rw [cP];omega),by rw [←dX];exact hb.set i _,
     FU (by rw [hll.out];omega) (by rw [hlx.out];omega) (by rw [hly.out];omega) hv.out hxk.out (by rw [if_pos hik];exact hyk.out) hs.out,hr.setCell hgc _⟩
    case measure=>simp [intOf];omega
   ·go_wp2_with ((with_reducible refine d5 (some 42) ?_);refine EX J (.tmp 39) (.tmp 40) (.tmp 41) J x 0 c J J J hc hxb (by omega) ?_;intro s d hs hsb hd)
    go_roundw
    case rel=>exact⟨i+1,d,_,by omega,hd,by go_num,rfl,by show _=_;rw [List.length_set];exact hll.out,gR hwl i (by rw [cP];omega),by rw [←dX];exact hb.set i _,
     FU (by rw [hll.out];omega) (by rw [hlx.out];omega) (by rw [hly.out];omega) hv.out hxk.out (by rw [if_neg hik]) hs.out,hr.setCell hgc _⟩
    case measure=>simp [intOf];omega
  ·obtain rfl:i=m:=by omega
   have hr2:Rd wr (some ⟨g,0,none⟩) i i l:=by
    have:=hb.rd hwl (o:=0) (n:=i) (cap:=i) (aZ _) (by rw [hll.out];omega) (by rw [eG];omega)
    rwa [gP,List.take_of_length_le (by rw [hll.out];omega)] at this
   have hval:Hid (nv l=nv xs-nv ys):=by
    show _=_
    have e:=hv.out
    rw [Nat.min_eq_right hkm,pN hx.wf hm.out,pN hy.wf hk.out,List.take_of_length_le (by rw [hll.out];omega)] at e
    have hlt:nv l<WB^i:=by have:=iV hwl;rwa [hll.out] at this
    by_cases h0:c=0
    ·rw [h0,gM] at e;omega
    ·have hc1:c=1:=by omega
     rw [hc1,dV] at e;omega
   go_wp2_with fail
   refine (kO hr2).mono ?_
   rintro e w' ⟨q,hq,hqn,rfl,rfl⟩
   go_wp2_with fail
   go_ret2
   rw [←hval.out]
   exact EA (sB (ys:=l) hgs hb hll.out hqn (by rw [eG];omega) (oB hwl hq.out).symm (hx1.trans hr))
theorem a0f (hw:Wf xs)(hm:m=(wd (nv xs)).length)(h0:0<m)(hx:xs.getD (m-1) 0=x):x≠0∧64*(m-1)+cV x=cV (nv xs):=by
 have e:=oB hw hm
 have o:nv xs≠0:=fun h=>by rw [h,nC] at hm;simp at hm;omega
 have q:m≤xs.length:=by rw [hm];exact gJ hw
 have r:nv xs=nv (xs.take (m-1))+WB^(m-1)*x:=by
  rw [←pN hw hm,←hx,←eT xs (m-1) (by omega),jO h0]
 have p:=lW hw (m-1)
 have f:x≠0:=by
  rintro rfl
  have h1:=IF o
  rw [←hm] at h1
  rw [gM] at r
  omega
 refine⟨f,(DX ?_ (cO ?_)).symm⟩
 ·have h1:=pQ x
  rw [dU,Nat.pow_mul,←lQ]
  have h2:WB^(m-1)*x+WB^(m-1)≤WB^(m-1)*2^cV x:=by
   have:=fJ (WB^(m-1)) (nU h1)
   rwa [qD] at this
  omega
 ·have h1:=zG f
  have hb:cV x≠0:=fun h=>f (nO.1 h)
  rw [Nat.add_sub_assoc (by omega),dU,Nat.pow_mul,←lQ]
  have:=fJ (WB^(m-1)) h1
  omega
def a0D (k:Nat)(w:a6)(e:dL)(w':a6):Prop:=∃n:Nat,Hid (n=k)∧e= .returned (no (n:Int))∧Ext w w'
theorem xZ (hx:Rd w A n cap xs)(hl:n≤1099511627775):aP aN 142 #[we A n cap] w (a0D (cV (nv xs)) w):=by
 go_enter Tryz.func142,Tryz.ntmps142
 go_wp2_with fail
 refine (kO hx).mono ?_
 rintro e w' ⟨m,hm,hmn,rfl,rfl⟩
 by_cases h0:0<m
 ·obtain⟨a,x,rfl,hxk,hxb,hcx⟩:=hx.get (i:=m-1) (by omega)
  have hb:=Lib.hid (a0f hx.wf hm.out h0 hxk.out)
  have b0:((m:Int)==0)=false:=by simp;omega
  go_wp2_with fail
  refine (bits_Len64 x hxb _).mono ?_
  rintro e w' ⟨q,hq,hq64,rfl,rfl⟩
  go_wp2_with fail
  go_ret
  refine⟨64*(m-1)+q,?_,?_,Ext.refl w⟩
  ·show _=_
   rw [hq.out];exact hb.out.2
  ·exact RT (by omega)
 ·obtain rfl:m=0:=by omega
  go_wp2_with fail
  go_ret
  refine⟨0,?_,rfl,Ext.refl w⟩
  show _=_
  rw [(m0.1 hm.out.symm),DW]
def MN (A:Option aB)(xs:List Nat)(w:a6)(e:dL)(w':a6):Prop:=
 ∃k:Nat,Hid (k=(wd (nv xs)).length)∧e= .returned (we A k k)∧Rd w A k k (wd (nv xs))∧w=w'
theorem tE (hx:Rd w A n cap xs)(hl:n≤1099511627776:=by omega):aP aN 223 #[we A n cap] w (MN A xs w):=by
 have hlen:=Lib.hid hx.len
 have hcap:=hx.rv.le
 have hmax:=hx.rv.max
 rw [eG] at hmax
 have fin:∀k,k≤n→k=(wd (nv xs)).length→MN A xs w (.returned (we A k k)) w:=by
  intro k hk h
  have h2:=hx.take hk (aZ _) (by omega)
  rw [←oB hx.wf h] at h2
  exact⟨k,h,rfl,h2,rfl⟩
 have FIN:=Lib.hid fin
 clear fin
 go_enter Tryz.func223,Tryz.ntmps223
 go_wp2_with fail
 go_loop [3] (fun u=>∃k:Nat,k≤n∧u= no (k:Int)∧Hid (nv (xs.take k)=nv xs)) (fun u=>(intOf u).toNat)
 case atStart=>exact⟨n,aZ _,rfl,(show _=_ by rw [←hlen.out,List.take_length])⟩
 case round=>
  obtain⟨k,hk,rfl,HV⟩:=hrel
  by_cases h0:0<k
  ·obtain⟨a,x,rfl,hxk,hxb,hc⟩:=hx.get (i:=k-1) (by omega)
   by_cases hz:x=0
   ·subst hz
    go_wp2_with fail
    go_round
    case rel=>
     refine⟨k-1,by omega,fQ,?_⟩
     show _=_
     rw [←HV.out,←rB xs (k-1) (by rw [hlen.out];omega) hxk.out,jO h0]
    case measure=>simp [intOf];omega
   ·have hzb:((x:Int)==0)=false:=by simp;omega
    have hk0:¬k=0:=by omega
    go_wp2_with fail
    go_ret
    have:=uJ (k:=k) hx.wf (by rw [hlen.out];exact hk) HV.out (cO (by rw [hxk.out];exact hz))
    exact FIN.out k hk (by rw [this,dH,hlen.out];omega)
  ·obtain rfl:k=0:=by omega
   go_wp2_with fail
   go_ret
   have:=uJ (k:=0) hx.wf (bJ _) HV.out (cH J)
   exact FIN.out 0 hk (by rw [this,dH,hlen.out];omega)
def tZ (g:Nat)(zs:List Nat)(v:Nat)(w:a6)(e:dL)(w':a6):Prop:=
 ∃zs',e= .returned (.tuple #[])∧Bk w' g 65 (zs'.map bF)∧Wf zs'∧Hid (zs'.length=zs.length)∧Hid (nv zs'=v)∧Upd g w w'
theorem MH {o c z:Nat}(hi:o+i<l.length)(h:nv l+WB^(o+i)*c=V+WB^o*nv (ys.take i))(hz:l.getD (o+i) 0=z)(hy:i<ys.length)(hyk:ys.getD i 0=y)(hs:s+WB*d=z+y+c):nv (l.set (o+i) s)+WB^(o+i+1)*d=V+WB^o*nv (ys.take (i+1)):=by
 have f:=oK hi s
 rw [hz] at f
 rw [eT ys i hy,hyk,cI,←bX (WB^o),←dU,cW,bX]
 have e:WB^(o+i)*(s+WB*d)=WB^(o+i)*(z+y+c):=by rw [hs]
 simp only [cI] at e
 omega
theorem MG {c z:Nat}(hi:k<l.length)(h:nv l+WB^k*c=V)(hz:l.getD k 0=z)(hs:s+WB*d=z+c):nv (l.set k s)+WB^(k+1)*d=V:=by
 have f:=oK hi s
 rw [hz] at f
 rw [cW,bX]
 have e:WB^k*(s+WB*d)=WB^k*(z+c):=by rw [hs]
 simp only [cI] at e
 omega
theorem y8 {o:Nat}(hz:Bk w g 65 (zs.map bF))(hwz:Wf zs)(hzl:zs.length=o+n)(hy:Rd w B m cap' ys)(hne:∀a,B=some a→0<m→a.block≠g)(hmn:m≤n)(hn:n≤1099511627776)(_ho:o≤1099511627776)(hv:nv zs+WB^o*nv ys<WB^(o+n)):aP aN 225 #[we (some ⟨g,o,none⟩) n cap,we B m cap'] w (tZ g zs (nv zs+WB^o*nv ys) w):=by
 have hly:=Lib.hid hy.len
 have hlz:=Lib.hid hzl
 have HV:=Lib.hid hv
 clear hzl hv
 go_enter Tryz.func225,Tryz.ntmps225
 go_wp2_with fail
 go_loopw [9,4] (fun u v wr=>∃(i c:Nat) (l:List Nat),i≤m∧c≤1∧u= no (i:Int)∧v= up (c:Int)∧Hid (l.length=o+n)∧Wf l∧Bk wr g 65 (l.map bF)∧
  Hid (nv l+WB^(o+i)*c=nv zs+WB^o*nv (ys.take i))∧Upd g w wr) (fun u v wr=>m-(intOf u).toNat)
 case atStart=>exact⟨0,0,zs,bJ _,bJ _,rfl,rfl,hlz.out,hwz,hz,by simp [Hid,nv],Upd.refl _ _⟩
 case round=>
  obtain⟨i,c,l,hi,hc,rfl,rfl,hll,hwl,hb,hv,hr⟩:=hrel
  by_cases him:i<m
  ·obtain⟨a,y,rfl,hyk,hyb,hcy⟩:=(hy.upd hr (fun a ha=>hne a ha (by omega))).get (i:=i) (by omega)
   obtain⟨z,hzk,hzb,hcz⟩:=hb.word hwl (i:=o+i) (by rw [hll.out];omega)
   have hfr:=hb.frozen (o+i)
   obtain⟨s,d,hs,hsb,hd,hadd⟩:=zM hc hzb hyb
   go_wp2_with fail
   go_region
   go_wp2_with fail
   go_roundw
   case rel=>exact⟨i+1,d,l.set (o+i) s,by omega,hd,by go_num,rfl,by show _=_;rw [List.length_set];exact hll.out,gR hwl _ (by rw [cP];omega),by rw [←dX];exact (hb.set _ _).drew,
    MH (by rw [hll.out];omega) hv.out hzk.out (by rw [hly.out];omega) hyk.out hs.out,(hr.setCell _ _).drew⟩
   case measure=>simp [intOf];omega
  ·obtain rfl:i=m:=by omega
   have hv1:Hid (nv l+WB^(o+i)*c=nv zs+WB^o*nv ys):=by
    show _=_
    rw [hv.out,List.take_of_length_le (by rw [hly.out];omega)]
   clear hv
   go_wp2_with fail
   obtain⟨wo,rfl⟩:∃wo:a6,wo=wr:=⟨_,rfl⟩
   go_loopw [6,4] (fun u v wr=>∃(j c:Nat) (l:List Nat),i≤j∧j≤n∧c≤1∧u= no (j:Int)∧v= up (c:Int)∧Hid (l.length=o+n)∧Wf l∧Bk wr g 65 (l.map bF)∧
    Hid (nv l+WB^(o+j)*c=nv zs+WB^o*nv ys)∧Upd g w wr) (fun u v wr=>n-(intOf u).toNat)
   case atStart=>exact⟨i,c,l,aZ _,hmn,hc,rfl,rfl,hll.out,hwl,hb,hv1.out,hr⟩
   case round=>
    obtain⟨j,c2,l2,hij,hjn,hc2,rfl,rfl,hl2,hw2,hb2,hv2,hr2⟩:=hrel
    clear hll hwl hb hv1 hr
    by_cases hc0:c2=0
    ·subst hc0
     have b0:((0:Int) != 0)=false:=rfl
     go_wp2_with fail
     go_end0
     have h:=hv2.out
     rw [gM,fC] at h
     exact⟨l2,rfl,hb2,hw2,(show _=_ by rw [hl2.out,hlz.out]),h,hr2⟩
    ·obtain rfl:c2=1:=by omega
     have hjn':j<n:=by
      refine mU (fun hle=>?_)
      obtain rfl:j=n:=by omega
      have h:=hv2.out
      have:=HV.out
      rw [dV] at h
      omega
     obtain⟨z,hzk,hzb,hcz⟩:=hb2.word hw2 (i:=o+j) (by rw [hl2.out];omega)
     have hfr:=hb2.frozen (o+j)
     obtain⟨s,d,hs,hsb,hd,hadd⟩:=a0t hzb
     have b1:((1:Int) != 0)=true:=rfl
     go_wp2_with fail
     go_roundw
     case rel=>exact⟨j+1,d,l2.set (o+j) s,by omega,by omega,hd,by go_num,rfl,by show _=_;rw [List.length_set];exact hl2.out,gR hw2 _ (by rw [cP];omega),by rw [←dX];exact (hb2.set _ _),
      MG (by rw [hl2.out];omega) hv2.out hzk.out hs.out,(hr2.setCell _ _)⟩
     case measure=>simp [intOf];omega
theorem FS {c z Y Y':Nat}(hi:i<l.length)(h:nv l+Y=V+WB^i*c)(hz:l.getD i 0=z)(hY:Y'=Y+WB^i*y)(hs:s+y+c=z+WB*d):nv (l.set i s)+Y'=V+WB^(i+1)*d:=by
 have f:=oK hi s
 rw [hz] at f
 rw [cW,bX,hY]
 have e:WB^i*(s+y+c)=WB^i*(z+WB*d):=by rw [hs]
 simp only [cI] at e
 omega
theorem J6 (hz:Bk w g 65 (zs.map bF))(hwz:Wf zs)(hzl:zs.length=n)(hy:Rd w B m cap' ys)(hne:∀a,B=some a→0<m→a.block≠g)(hmn:m≤n)(hn:n≤1099511627776)(hv:nv ys≤nv zs):aP aN 257 #[we (some ⟨g,0,none⟩) n cap,we B m cap'] w (tZ g zs (nv zs-nv ys) w):=by
 have hly:=Lib.hid hy.len
 have hlz:=Lib.hid hzl
 have HV:=Lib.hid hv
 clear hzl hv
 go_enter Tryz.func257,Tryz.ntmps257
 go_wp2_with fail
 go_loopw [9,4] (fun u v wr=>∃(i c:Nat) (l:List Nat),i≤n∧c≤1∧u= no (i:Int)∧v= up (c:Int)∧Hid (l.length=n)∧Wf l∧Bk wr g 65 (l.map bF)∧
  Hid (nv l+nv (ys.take i)=nv zs+WB^i*c)∧Upd g w wr) (fun u v wr=>n-(intOf u).toNat)
 case atStart=>exact⟨0,0,zs,bJ _,bJ _,rfl,rfl,hlz.out,hwz,hz,by simp [Hid,nv],Upd.refl _ _⟩
 case round=>
  obtain⟨i,c,l,hi,hc,rfl,rfl,hll,hwl,hb,hv,hr⟩:=hrel
  have fin:i=n∨(m≤i∧c=0)→tZ g zs (nv zs-nv ys) w (.returned (.tuple #[])) wr:=by
   intro h
   have e:=hv.out
   rw [List.take_of_length_le (by rw [hly.out];omega)] at e
   have hlt:nv l<WB^n:=by have:=iV hwl;rwa [hll.out] at this
   refine⟨l,rfl,hb,hwl,(show _=_ by rw [hll.out,hlz.out]),?_,hr⟩
   show _=_
   have h2:=HV.out
   by_cases h0:c=0
   ·rw [h0,gM] at e;omega
   ·have hc1:c=1:=by omega
    have hin:i=n:=by omega
    rw [hc1,dV,hin] at e;omega
  have FIN:=Lib.hid fin
  clear fin
  by_cases him:i<n
  ·obtain⟨z,hzk,hzb,hcz⟩:=hb.word hwl (i:=i) (by rw [hll.out];omega)
   have hfr:=hb.frozen i
   by_cases hiy:i<m
   ·obtain⟨a,y,rfl,hyk,hyb,hcy⟩:=(hy.upd hr (fun a ha=>hne a ha (by omega))).get (i:=i) (by omega)
    obtain⟨s,d,hs,hsb,hd,hsub⟩:=xD hc hzb hyb
    go_wp2_with fail
    go_roundw
    case rel=>exact⟨i+1,d,l.set i s,by omega,hd,by go_num,rfl,by show _=_;rw [List.length_set];exact hll.out,gR hwl _ (by rw [cP];omega),by rw [←dX];exact (hb.set _ _),
     FS (by rw [hll.out];omega) hv.out hzk.out (by rw [eT ys i (by rw [hly.out];omega),hyk.out]) hs.out,hr.setCell _ _⟩
    case measure=>simp [intOf];omega
   ·by_cases hc0:c=0
    ·subst hc0
     go_wp2_with fail
     refine fO (results_none J _ _ _) J ?_
     exact FIN.out (cO ⟨by omega,by simp⟩)
    ·obtain rfl:c=1:=by omega
     obtain⟨s,d,hs,hsb,hd,hsub⟩:=PO hzb
     go_wp2_with fail
     go_roundw
     case rel=>exact⟨i+1,d,l.set i s,by omega,hd,by go_num,rfl,by show _=_;rw [List.length_set];exact hll.out,gR hwl _ (by rw [cP];omega),by rw [←dX];exact (hb.set _ _),
      FS (y:=0) (c:=1) (by rw [hll.out];omega) hv.out hzk.out (by rw [List.take_of_length_le (by rw [hly.out];omega),List.take_of_length_le (by rw [hly.out];omega),gM,fC]) hs.out,hr.setCell _ _⟩
     case measure=>simp [intOf];omega
  ·go_wp2_with fail
   go_end0
   exact FIN.out (cH (by omega))
def NewP (w:a6)(v n:Nat)(e:dL)(w':a6):Prop:=
 ∃g zs,e= .returned (we (some ⟨g,0,none⟩) n n)∧w.heap.size≤g∧Bk w' g 65 (zs.map bF)∧Wf zs∧Hid (zs.length=n)∧Hid (nv zs=v)∧Ext w w'
theorem IU (h:xs.length≤n):nv (splice (cJ n 0) 0 xs)=nv xs∧(splice (cJ n 0) 0 xs).length=n:=by
 unfold splice
 constructor
 ·rw [List.take_zero,List.nil_append,List.drop_replicate,CG,xT,gM,fC]
 ·simp;omega
theorem MJ (hx:Wf xs)(hy:Wf ys)(o:Nat):Wf (splice xs o ys):=E8 (s7 hx _) (E8 hy (E7 hx _))
theorem J5 (hx:Rd w A n cap xs)(hl:n≤549755813888)(hy:Rd w B m cap' ys)(hl':m≤549755813888):aP aN 256 #[we A n cap,we B m cap'] w (NewP w (nv xs+nv ys) (max n m+1)):=by
 have hlx:=Lib.hid hx.len
 have hly:=Lib.hid hy.len
 obtain⟨k,hk⟩:∃k,max n m=k:=⟨_,rfl⟩
 rw [hk]
 have hnk:n≤k:=by omega
 have hmk':m≤k:=by omega
 have hkb:k≤549755813888:=by omega
 have hmax:max (n:Int) (m:Int)=(k:Int):=by omega
 have hmk:=kN (P:=aN) Tryz.underlying22 iD J (by decide) ((k:Int)+1) (by omega) (by omega)
 have et:((k:Int)+1).toNat=k+1:=by omega
 rw [et] at hmk
 clear et hk
 go_enter Tryz.func256,Tryz.ntmps256
 go_upto_region 2 with (fail)
 clear hmk
 obtain⟨g,hg⟩:∃g,w.heap.size=g:=⟨_,rfl⟩
 rw [hg]
 obtain⟨wa,hwa⟩:∃wa,w.alloc (.cells (zc (.int .u64 0) (k+1)) 65)=wa:=⟨_,rfl⟩
 rw [hwa]
 have hbk:Bk wa g 65 ((cJ (k+1) 0).map bF):=by
  rw [←hwa,←hg,←j7];exact Bk.new' _ _ _
 have hea:Ext w wa:=by rw [←hwa];exact (Ext.refl w).alloc _
 have hgs:w.heap.size≤g:=by rw [hg];exact aZ _
 clear hg hwa
 have hr1:n≤k+1:=by omega
 go_wp2_with ((with_reducible refine d5 (some 15) ?_);refine wU J (.tmp 13) (.tmp 14) 22 22 J J J Tryz.underlying22 BG hbk (hx.rv.ext hea) (fun _=>rfl) (by rw [List.length_map,List.length_replicate];omega) (zP xs) ?_;intro w1 hb1 hu1)
 rw [←kW,BE,List.take_of_length_le (l:=xs) (by rw [hlx.out];omega)] at hb1
 obtain⟨zs,hzs⟩:∃zs,zs=splice (cJ (k+1) 0) 0 xs:=⟨_,rfl⟩
 have hz2:=IU (xs:=xs) (n:=k+1) (by rw [hlx.out];omega)
 have hwz:Wf zs:=by rw [hzs];exact MJ (mR _) hx.wf _
 rw [←hzs] at hb1 hz2
 clear hzs
 obtain⟨hzv,hzl⟩:=hz2
 have HZV:=Lib.hid hzv
 have HZL:=Lib.hid hzl
 clear hzv hzl
 have he1:Ext w w1:=hu1.ext hea hgs
 refine (y8 (o:=0) (n:=k+1) hb1 hwz (by rw [HZL.out];omega) (hy.ext he1) (fun a ha hp=>by have:=hy.rv.blk a ha (by have:=hy.rv.le;omega);omega) (by omega) (by omega) (by omega) ?_).mono ?_
 ·have h1:=iV hx.wf
  have h2:=iV hy.wf
  rw [hlx.out] at h1
  rw [hly.out] at h2
  have h3:WB^n≤WB^k:=eS gC hnk
  have h4:WB^m≤WB^k:=eS gC hmk'
  have h5:WB^k*2≤WB^k*WB:=fJ _ ML
  rw [HZV.out,Nat.pow_zero,Nat.one_mul,eJ,cW]
  omega
 rintro e w2 ⟨zs',rfl,hb2,hw2,hl2,hv2,hu2⟩
 go_wp2_with fail
 go_ret
 refine⟨g,zs',rfl,hgs,hb2,hw2,(show _=_ by rw [hl2.out,HZL.out]),?_,hu2.ext he1 hgs⟩
 show _=_
 rw [hv2.out,HZV.out,Nat.pow_zero,Nat.one_mul]
theorem UK {c o P:Nat}(hk:k=i+j)(hkm:k<m)(hml:m≤l.length)(h:nv (l.take m)+WB^k*c=P+x*(WB^i*nv (ys.take j)))(ho:l.getD k 0=o)(hj:j<ys.length)(hy:ys.getD j 0=y)(hs:s+WB*d=o+x*y+c):nv ((l.set k s).take m)+WB^(k+1)*d=P+x*(WB^i*nv (ys.take (j+1))):=by
 have p:=oK (l:=l.take m) (k:=k) (by rw [dH];omega) s
 rw [yH hkm,ho] at p
 rw [List.take_set,eT ys j hj,hy,cI (WB^i),cI x,←iM,←h,←bX (WB^i),←dU,←hk,cW,bX (WB^k)]
 have e:WB^k*(s+WB*d)=WB^k*(o+x*y+c):=by rw [hs]
 simp only [cI] at e
 have f:WB^k*(x*y)=x*(WB^k*y):=by rw [←bX,cL (WB^k) x,bX]
 rw [f] at e
 omega
theorem UN {capa capb:Nat}(hz:Bk w g 65 (zs.map bF))(hzz:zs=cJ N 0)(hN:N=n+m)(hx:Rd w A n capa xs)(hy:Rd w B m capb ys)(hna:∀a,A=some a→0<n→a.block≠g)(hnb:∀a,B=some a→0<m→a.block≠g)(hn:n≤549755813888)(hm:m≤549755813888):aP aN 224 #[we (some ⟨g,0,none⟩) N cap,we A n capa,we B m capb] w (tZ g zs (nv xs*nv ys) w):=by
 have hlx:=Lib.hid hx.len
 have hly:=Lib.hid hy.len
 have hlz:=Lib.hid (show zs.length=n+m by rw [hzz,List.length_replicate,hN])
 have hwz:Wf zs:=by rw [hzz];exact mR _
 have hz0:=Lib.hid (show∀t,zs.getD t 0=0 by intro t;rw [hzz];simp [bK,List.getElem?_replicate];split <;> rfl)
 have hzv:=Lib.hid (show nv (zs.take m)=0 by rw [hzz,List.take_replicate,xT])
 subst hN
 clear hzz
 go_enter Tryz.func224,Tryz.ntmps224
 go_wp2_with fail
 go_loopw [16] (fun u wr=>∃(i:Nat) (l:List Nat),i≤n∧u= no (i:Int)∧Hid (l.length=n+m)∧Wf l∧Bk wr g 65 (l.map bF)∧
  Hid (nv (l.take (i+m))=nv (xs.take i)*nv ys)∧Hid (∀t,i+m≤t→l.getD t 0=0)∧Upd g w wr) (fun u wr=>n-(intOf u).toNat)
 case atStart=>exact⟨0,zs,bJ _,rfl,hlz.out,hwz,hz,by simp [Hid,nv];exact hzv.out,fun t _=>hz0.out t,Upd.refl _ _⟩
 case round=>
  obtain⟨i,l,hi,rfl,hll,hwl,hb,hv,h0,hr⟩:=hrel
  by_cases hip:i<n
  ·obtain⟨a,x,rfl,hxk,hxb,hcx⟩:=(hx.upd hr (fun a ha=>hna a ha (by omega))).get (i:=i) (by omega)
   by_cases hx0:x=0
   ·subst hx0
    have hstay:Hid (nv (l.take (i+1+m))=nv (xs.take (i+1))*nv ys):=by
     show _=_
     rw [show i+1+m=i+m+1 from by omega,rB l (i+m) (by rw [hll.out];omega) (h0.out _ (by omega)),hv.out,rB xs i (by rw [hlx.out];omega) hxk.out]
    go_wp2_with fail
    go_roundw
    case rel=>exact⟨i+1,l,by omega,by go_num,hll.out,hwl,hb,hstay.out,fun t ht=>h0.out t (by omega),hr⟩
    case measure=>simp [intOf];omega
   ·have hxz:((x:Int)==0)=false:=by simp;omega
    go_wp2_with fail
    obtain⟨wo,rfl⟩:∃wo:a6,wo=wr:=⟨_,rfl⟩
    go_loopw [25,8] (fun u v wr=>∃(j c:Nat) (l:List Nat),j≤m∧c≤18446744073709551615∧u= no (j:Int)∧v= up (c:Int)∧Hid (l.length=n+m)∧Wf l∧Bk wr g 65 (l.map bF)∧
     Hid (nv (l.take (i+m))+WB^(i+j)*c=nv (xs.take i)*nv ys+x*(WB^i*nv (ys.take j)))∧Hid (∀t,i+m≤t→l.getD t 0=0)∧Upd g w wr) (fun u v wr=>m-(intOf u).toNat)
    case atStart=>exact⟨0,0,l,bJ _,by omega,rfl,rfl,hll.out,hwl,hb,(show _=_ by rw [hv.out];simp [nv]),h0.out,hr⟩
    case round=>
     obtain⟨j,c,l2,hj,hc,rfl,rfl,hl2,hw2,hb2,hv2,h02,hr2⟩:=hrel
     clear hll hwl hb hv h0 hr hcx
     by_cases hjq:j<m
     ·obtain⟨b,y,rfl,hyk,hyb,hcy⟩:=(hy.upd hr2 (fun a ha=>hnb a ha (by omega))).get (i:=j) (by omega)
      obtain⟨o,hok,aE,hco⟩:=hb2.word hw2 (i:=i+j) (by rw [hl2.out];omega)
      have hfr:=hb2.frozen (i+j)
      go_wp2_with fail
      refine (bits_Mul64 x y hxb hyb _).mono ?_
      rintro e w' ⟨hi',lo,hp,hhb,hlb,rfl,rfl⟩
      obtain⟨s1,d1,hs1,hsb1,hd1,hadd1⟩:=vZ hlb hc
      obtain⟨s2,d2,hs2,hsb2,hd2,hadd2⟩:=vZ aE hsb1
      have hP:x*y≤340282366920938463426481119284349108225:=jP hxb hyb
      have hk1:hi'+d1+d2≤18446744073709551615∧hi'+d1≤18446744073709551615:=by
       have e1:=hp.out
       have e2:=hs1.out
       have e3:=hs2.out
       rw [cP] at e1 e2 e3
       omega
      obtain⟨hk1,hk2⟩:=hk1
      clear hP
      go_wp2_with fail
      go_roundw
      case rel=>
       refine⟨j+1,hi'+d1+d2,l2.set (i+j) s2,by omega,by omega,by go_num,fQ,by show _=_;rw [List.length_set];exact hl2.out,gR hw2 _ (by rw [cP];omega),by rw [←dX];exact hb2.set _ _,
        UK (k:=i+j) (m:=i+m) J (by omega) (by rw [hl2.out];omega) hv2.out hok.out (by rw [hly.out];omega) hyk.out ?_,fun t ht=>?_,hr2.setCell _ _⟩
       ·have e1:=hp.out
        have e2:=hs1.out
        have e3:=hs2.out
        rw [cI,cI,←e1];omega
       ·rw [getD_set_ne (by omega)];exact h02.out t ht
      case measure=>simp [intOf];omega
     ·obtain rfl:j=m:=by omega
      obtain⟨o,hok,aE,hco⟩:=hb2.word hw2 (i:=i+j) (by rw [hl2.out];omega)
      have hfr:=hb2.frozen (i+j)
      go_wp2_with fail
      go_roundw
      case rel=>
       refine⟨i+1,l2.set (i+j) c,by omega,by go_num,by show _=_;rw [List.length_set];exact hl2.out,gR hw2 _ (by rw [cP];omega),by rw [←dX];exact hb2.set _ _,?_,fun t ht=>?_,hr2.setCell _ _⟩
       ·show _=_
        rw [show i+1+j=i+j+1 from by omega,CF (by rw [hl2.out];omega),hv2.out,List.take_of_length_le (l:=ys) (i:=j) (by rw [hly.out];omega),eT xs i (by rw [hlx.out];omega),hxk.out,dK,←bX,cL x]
       ·rw [getD_set_ne (by omega)];exact h02.out t (by omega)
      case measure=>simp [intOf];omega
  ·obtain rfl:i=n:=by omega
   go_wp2_with fail
   go_end0
   have h:=hv.out
   rw [List.take_of_length_le (by rw [hll.out];omega),List.take_of_length_le (by rw [hlx.out];omega)] at h
   exact⟨l,rfl,hb,hwl,(show _=_ by rw [hll.out,hlz.out]),h,hr⟩
def EC (w:a6)(x y:Nat)(e:dL)(w':a6):Prop:=∃k,Hid (k=(wd x).length+(wd y).length)∧NewP w (x*y) k e w'
def MT (N:Nat):Prop:=∀(w:a6) (A B:Option aB) (n cap m cap':Nat) (xs ys:List Nat),Rd w A n cap xs→Rd w B m cap' ys→n+m<N→n+m≤274877906944→
 aP aN 184 #[we A n cap,we B m cap'] w (EC w (nv xs) (nv ys))
theorem NewP.rd (hb:Bk w' g 65 (zs.map bF))(hw:Wf zs)(hl:zs.length=n)(hn:n≤1099511627776):Rd w' (some ⟨g,0,none⟩) n n zs:=by
 have:=hb.rd hw (o:=0) (n:=n) (cap:=n) (aZ _) (by omega) (by rw [eG];omega)
 rwa [gP,List.take_of_length_le (by omega)] at this
theorem Upd.then_new {a b:a6}(h:Upd g w a)(e:Upd k a b)(hk:w.heap.size≤k):Upd g w b:=
 ⟨⟨e.by_.os.trans h.by_.os,e.by_.tape.trans h.by_.tape,e.by_.output.trans h.by_.output,a8 h.by_.size e.by_.size,
  fun i hi f=>(e.by_.block i (dJ hi h.by_.size) (fun e'=>by have:=m9 e';omega)).trans (h.by_.block i hi f)⟩⟩
theorem Rd.drop_some {a:aB}(h:Rd w (some a) n cap xs){l:Nat}(hl:l<n):Rd w (some (a.add l)) (n-l) (cap-l) (xs.drop l):=by
 have e:=h.rv.le
 have:=h.cut (l:=l) (k:=n) (m:=cap) (by omega) (aZ _) e (aZ _)
 rw [if_neg (by omega),wH,List.take_of_length_le (by rw [h.len];omega)] at this
 exact this
theorem Rd.empty (h:Rd w A n cap xs):Rd w A 0 0 []:=by
 have:=h.take (k:=0) (m:=0) (bJ _) (aZ _) (bJ _)
 simpa using this
def MX (w:a6)(h r:Nat)(xs:List Nat)(u v:aM)(wc:a6):Prop:=
 ∃A0 A1 c0 c1,u= we A0 h c0∧v= we A1 r c1∧Rd wc A0 h c0 (xs.take h)∧Rd wc A1 r c1 (xs.drop h)∧Ext w wc
theorem UO (IH:MT N)(hz:Bk w g 65 (zs.map bF))(hzz:zs=cJ (n+m) 0)(hx:Rd w A n n xs)(hy:Rd w B m m ys)(hna:∀a,A=some a→a.block≠g)(hnb:∀a,B=some a→a.block≠g)(hN:n+m=N)(hN2:N≤274877906944)(hm:24≤m)(hmn:m≤n)(hnm:n<2*m):aP aN 226 #[we (some ⟨g,0,none⟩) N N,we A n n,we B m m] w (tZ g zs (nv xs*nv ys) w):=by
 have HI:=Lib.hid IH
 have HZZ:=Lib.hid hzz
 clear IH hzz
 have hlx:=Lib.hid hx.len
 have hly:=Lib.hid hy.len
 obtain⟨hf,hh⟩:∃hf,hf=(n+1)/2:=⟨_,rfl⟩
 have hh1:n≤2*hf:=by omega
 have hh2:2*hf≤n+1:=by omega
 have hh3:((n:Int)+1)/2=(hf:Int):=by omega
 have hNi:N≤n+m:=by omega
 have hNj:n+m≤N:=by omega
 have HN:=Lib.hid hN
 clear hh hN
 obtain⟨a,_,rfl,_,_,_⟩:=hx.get (i:=0) (by omega)
 obtain⟨b,_,rfl,_,_,_⟩:=hy.get (i:=0) (by omega)
 go_enter Tryz.func226,Tryz.ntmps226
 go_upto_region 1 with (fail)
 go_cut [7,8] (fun u v wc=>MX w hf (n-hf) xs u v wc)
 case first=>
  go_wp2_with fail
  go_quiet (fail)
  go_wp2_with fail
  go_meet
  case rel=>exact⟨_,_,_,_,rfl,rfl,(hx.take (k:=hf) (m:=hf) (by omega) (aZ _) (by omega)).ext (by repeat (first | exact Ext.refl _ | assumption | apply Ext.drewN | apply Ext.drew | apply Ext.alloc)),(hx.drop_some (l:=hf) (by omega)).ext (by repeat (first | exact Ext.refl _ | assumption | apply Ext.drewN | apply Ext.drew | apply Ext.alloc)),(by repeat (first | exact Ext.refl _ | assumption | apply Ext.drewN | apply Ext.drew | apply Ext.alloc))⟩
 case rest=>
  obtain⟨A0,A1,c0,c1,rfl,rfl,hx0,hx1,hext1⟩:=hcut
  obtain⟨wx,rfl⟩:∃wx:a6,wx=wc:=⟨_,rfl⟩
  go_upto_region 2 with (fail)
  go_cut [9,10] (fun u v wc=>MX wx hf (m-hf) ys u v wc)
  case first=>
   by_cases hhm:hf=m
   ·subst hhm
    have e0:hf-hf=0:=by omega
    go_wp2_with fail
    go_quiet (fail)
    go_wp2_with fail
    go_meet
    case rel=>
     have hy2:=(hy.ext hext1)
     refine⟨_,some b,_,0,rfl,by rw [e0],(hy2.take (k:=hf) (m:=hf) (by omega) (aZ _) (by omega)).ext (by repeat (first | exact Ext.refl _ | assumption | apply Ext.drewN | apply Ext.drew | apply Ext.alloc)),?_,(by repeat (first | exact Ext.refl _ | assumption | apply Ext.drewN | apply Ext.drew | apply Ext.alloc))⟩
     rw [e0,List.drop_eq_nil_of_le (by rw [hly.out];omega)]
     exact hy2.empty.ext (by repeat (first | exact Ext.refl _ | assumption | apply Ext.drewN | apply Ext.drew | apply Ext.alloc))
   ·have hhm2:hf<m:=by omega
    go_wp2_with fail
    go_quiet (fail)
    go_wp2_with fail
    go_meet
    case rel=>
     have hy2:=(hy.ext hext1)
     exact⟨_,_,_,_,rfl,rfl,(hy2.take (k:=hf) (m:=hf) (by omega) (aZ _) (by omega)).ext (by repeat (first | exact Ext.refl _ | assumption | apply Ext.drewN | apply Ext.drew | apply Ext.alloc)),(hy2.drop_some (l:=hf) (by omega)).ext (by repeat (first | exact Ext.refl _ | assumption | apply Ext.drewN | apply Ext.drew | apply Ext.alloc)),(by repeat (first | exact Ext.refl _ | assumption | apply Ext.drewN | apply Ext.drew | apply Ext.alloc))⟩
  case rest=>
   obtain⟨B0,B1,d0,d1,rfl,rfl,hy0,hy1,hext2⟩:=hcut
   have hx0':=hx0.ext hext2
   have hx1':=hx1.ext hext2
   have hz':=hz.ext (hext1.trans hext2)
   have hE:=hext1.trans hext2
   clear hx0 hx1 hext1 hext2
   go_wp2_with fail
   refine (HI.out _ _ _ _ _ _ _ _ _ hx0' hy0 (by omega) (by omega)).mono ?_
   rintro e w1 ⟨kl,hkl,gl,zl,rfl,hgl,hbl,hwl,hll,hvl,he1⟩
   have hlb:kl≤2*hf:=by
    rw [hkl.out]
    have h1:=gJ hx0'.wf
    have h2:=gJ hy0.wf
    rw [hx0'.len] at h1
    rw [hy0.len] at h2
    omega
   go_wp2_with fail
   refine (tE (NewP.rd hbl hwl hll.out (by omega))).mono ?_
   rintro e w' ⟨tl,htl,rfl,hrl,rfl⟩
   rw [hvl.out] at htl hrl
   go_wp2_with fail
   refine (HI.out _ _ _ _ _ _ _ _ _ (hx1'.ext he1) (hy1.ext he1) (by omega) (by omega)).mono ?_
   rintro e w2 ⟨kh,hkh,gh,zh,rfl,hgh,hbh,hwh,hlh,hvh,he2⟩
   have hhb:kh≤(n-hf)+(m-hf):=by
    rw [hkh.out]
    have h1:=gJ hx1'.wf
    have h2:=gJ hy1.wf
    rw [hx1'.len] at h1
    rw [hy1.len] at h2
    omega
   go_wp2_with fail
   refine (tE (NewP.rd hbh hwh hlh.out (by omega))).mono ?_
   rintro e w' ⟨th,hth,rfl,hrh,rfl⟩
   rw [hvh.out] at hth hrh
   have he12:=he1.trans he2
   go_wp2_with fail
   refine (J5 (hx0'.ext he12) (by omega) (hx1'.ext he12) (by omega)).mono ?_
   rintro e w3 ⟨g3,z3,rfl,hg3,hb3,hw3,hl3,hv3,he3⟩
   go_wp2_with fail
   refine (J5 (hy0.ext (he12.trans he3)) (by omega) (hy1.ext (he12.trans he3)) (by omega)).mono ?_
   rintro e w4 ⟨g4,z4,rfl,hg4,hb4,hw4,hl4,hv4,he4⟩
   have q3:max hf (n-hf)+1=hf+1:=by omega
   have q4:max hf (m-hf)+1=hf+1:=by omega
   rw [q3] at hl3
   rw [q4] at hl4
   rw [q3,q4]
   clear q3 q4
   go_wp2_with fail
   refine (HI.out _ _ _ _ _ _ _ _ _ (NewP.rd (hb3.ext he4) hw3 hl3.out (by omega)) (NewP.rd hb4 hw4 hl4.out (by omega)) (by omega) (by omega)).mono ?_
   rintro e w5 ⟨km,hkm,gm,zm,rfl,hgm,hbm,hwm,hlm,hvm,he5⟩
   have vx:Hid (nv xs=nv (xs.take hf)+WB^hf*nv (xs.drop hf)):=oJ xs hf (by rw [hlx.out];omega)
   have vy:Hid (nv ys=nv (ys.take hf)+WB^hf*nv (ys.drop hf)):=oJ ys hf (by rw [hly.out];omega)
   have bx:Hid (nv xs*nv ys<WB^N):=by
    show _<_
    have h1:=iV hx.wf
    have h2:=iV hy.wf
    rw [hlx.out] at h1
    rw [hly.out] at h2
    rw [←HN.out,dU]
    exact wJ h1 h2
   have bl:Hid (nv (xs.take hf)*nv (ys.take hf)<WB^(2*hf)):=by
    show _<_
    have h1:=lW hx.wf hf
    have h2:=lW hy.wf hf
    rw [Nat.two_mul,dU]
    exact wJ h1 h2
   rw [hv3.out,hv4.out] at hvm hkm
   generalize nv (xs.take hf)=X0 at*
   generalize nv (xs.drop hf)=X1 at*
   generalize nv (ys.take hf)=Y0 at*
   generalize nv (ys.drop hf)=Y1 at*
   have emid:Hid ((X0+X1)*(Y0+Y1)=X0*Y0+X1*Y1+(X0*Y1+X1*Y0)):=by
    show _=_
    simp only [dK,cI];omega
   have eall:Hid (nv xs*nv ys=X0*Y0+WB^(2*hf)*(X1*Y1)+WB^hf*(X0*Y1+X1*Y0)):=by
    show _=_
    rw [vx.out,vy.out,Nat.two_mul,dU]
    simp only [dK,cI,bX]
    rw [Nat.mul_left_comm X0 (WB^hf) Y1,Nat.mul_left_comm X1 (WB^hf) Y1]
    omega
   have he25:=(he3.trans he4).trans he5
   have sl:tl≤km:=by
    have h1:=iV hwm
    rw [hlm.out,hvm.out,emid.out] at h1
    rw [htl.out]
    exact iX (by omega)
   have sh:th≤km:=by
    have h1:=iV hwm
    rw [hlm.out,hvm.out,emid.out] at h1
    rw [hth.out]
    exact iX (by omega)
   have hgl':gl<w1.heap.size:=hbl.lt
   have hgh':gh<w2.heap.size:=hbh.lt
   have s12:=he12.size
   have s2:=he2.size
   have s25:=he25.size
   have s5:=(he3.trans he4).size
   have n1:gl≠gm:=by omega
   have n2:gh≠gm:=by omega
   have hgz:g<w.heap.size:=hz.lt
   have sE:=hE.size
   have n3:g≠gm:=by have:=he12.size;omega
   have n4:g≠gl:=by omega
   have n5:g≠gh:=by have:=he1.size;omega
   have hkmb:km≤549755813888:=by
    rw [hkm.out]
    have h1:=gJ hw3
    have h2:=gJ hw4
    rw [hl3.out,hv3.out] at h1
    rw [hl4.out,hv4.out] at h2
    omega
   go_wp2_with fail
   refine (J6 hbm hwm hlm.out (hrl.ext (he2.trans he25)) (fun a ha _=>by cases ha;exact n1) sl (by omega) (by rw [dA,hvm.out,emid.out];omega)).mono ?_
   rintro e w6 ⟨z6,rfl,hb6,hw6,hl6,hv6,hu6⟩
   rw [dA,hvm.out,emid.out] at hv6
   go_wp2_with fail
   refine (J6 hb6 hw6 (by rw [hl6.out,hlm.out]) ((hrh.ext he25).upd hu6 (fun a ha=>by cases ha;exact n2)) (fun a ha _=>by cases ha;exact n2) sh (by omega) (by rw [dA,hv6.out];omega)).mono ?_
   rintro e w7 ⟨z7,rfl,hb7,hw7,hl7,hv7,hu7⟩
   rw [dA,hv6.out] at hv7
   have hu67:=hu6.trans hu7
   have hz7:Bk w7 g 65 (zs.map bF):=(hz'.ext (he12.trans he25)).upd hu67 n3
   have hrl7:Rd w7 (some ⟨gl,0,none⟩) tl tl (wd (X0*Y0)):=(hrl.ext (he2.trans he25)).upd hu67 (fun a ha=>by cases ha;exact n1)
   have hrh7:Rd w7 (some ⟨gh,0,none⟩) th th (wd (X1*Y1)):=(hrh.ext he25).upd hu67 (fun a ha=>by cases ha;exact n2)
   have hv7':Hid (nv z7=X0*Y1+X1*Y0):=by show _=_;rw [hv7.out];omega
   go_wp2_with ((with_reducible refine d5 (some 55) ?_);refine wU J (.tmp 53) (.tmp 54) 22 22 J J J Tryz.underlying22 BG hz7 hrl7.rv (fun _=>rfl) ?fit (zP _) ?_;rotate_left;intro w8 hb8 hu8)
   case fit=>rw [List.length_map,HZZ.out,List.length_replicate];omega
   have hwt:Wf (wd (X0*Y0)):=oS _
   have tlN:tl≤N:=by rw [htl.out];exact iX (jY (by rw [eall.out];omega) bx.out)
   rw [←kW,List.take_of_length_le (l:=wd (X0*Y0)) (by rw [←htl.out];exact tlN),HZZ.out,BE] at hb8
   obtain⟨hv8,hl8⟩:=IU (xs:=wd (X0*Y0)) (n:=n+m) (by rw [←htl.out];omega)
   rw [dA] at hv8
   have hw8:Wf (splice (cJ (n+m) 0) 0 (wd (X0*Y0))):=MJ (mR _) hwt _
   generalize splice (cJ (n+m) 0) 0 (wd (X0*Y0))=z8 at*
   have HV8:=Lib.hid hv8
   have HL8:=Lib.hid hl8
   clear hv8 hl8
   have hrh8:=hrh7.upd hu8 (fun a ha=>by cases ha;exact fun e=>n5 e.symm)
   have tot2:Hid (X0*Y0+WB^(2*hf)*(X1*Y1)<WB^N):=jY (by rw [eall.out];omega) bx.out
   have thN:th≤N-2*hf:=by
    rw [hth.out]
    refine iX ?_
    have h1:=tot2.out
    refine Nat.lt_of_mul_lt_mul_left (a:=WB^(2*hf)) ?_
    rw [←dU,show 2*hf+(N-2*hf)=N from by omega]
    omega
   have e2h:2*hf+(N-2*hf)=N:=by omega
   have hadd:=y8 (o:=2*hf) (n:=N-2*hf) (cap:=N-2*hf) hb8 hw8 (by rw [HL8.out,HN.out,e2h]) hrh8 (fun a ha _=>by cases ha;exact fun e=>n5 e.symm) thN (by omega) (by omega) (by rw [HV8.out,dA,e2h];exact tot2.out)
   refine hadd.mono ?_
   clear hadd
   clear e2h
   rintro e w9 ⟨z9,rfl,hb9,hw9,hl9,hv9,hu9⟩
   rw [HV8.out,dA] at hv9
   have hz79:Bk w9 gm 65 (z7.map bF):=(hb7.upd hu8 (fun e=>n3 e.symm)).upd hu9 (fun e=>n3 e.symm)
   have hrm:Rd w9 (some ⟨gm,0,none⟩) km km z7:=NewP.rd hz79 hw7 (by rw [hl7.out,hl6.out,hlm.out]) (by omega)
   go_wp2_with fail
   have tot3:Hid (nv z9+WB^hf*nv z7<WB^(hf+(N-hf))):=by
    show _<_
    rw [hv9.out,hv7'.out,show hf+(N-hf)=N from by omega,←eall.out];exact bx.out
   have tmN:(wd (nv z7)).length≤N-hf:=by
    refine iX ?_
    have h1:=tot3.out
    refine Nat.lt_of_mul_lt_mul_left (a:=WB^hf) ?_
    rw [←dU]
    omega
   have hl9':Hid (z9.length=hf+(N-hf)):=by show _=_;rw [hl9.out,HL8.out,HN.out];omega
   have b9:hf≤1099511627776:=by omega
   have b10:N-hf≤1099511627776:=by omega
   have fin:∀z10 w10,Wf z10→Bk w10 g 65 (z10.map bF)→z10.length=z9.length→nv z10=nv z9+WB^hf*nv (wd (nv z7))→Upd g w9 w10→tZ g zs (nv xs*nv ys) w (.returned (.tuple #[])) w10:=by
    intro z10 w10 h1 h2 h3 h4 h5
    refine⟨z10,rfl,h2,h1,(show _=_ by rw [h3,hl9.out,HL8.out,HZZ.out,List.length_replicate]),?_,?_⟩
    ·show _=_
     rw [h4,dA,hv9.out,hv7'.out,←eall.out]
    ·have u5:Upd g w w5:=Upd.of_ext (hE.trans (he12.trans he25))
     have u7:Upd g w w7:=u5.then_new hu67 (by omega)
     exact ((u7.trans hu8).trans hu9).trans h5
   have FIN:=Lib.hid fin
   clear fin
   go_region_with (first
    | (go_at_call 223;refine (tE (hrm.ext (by repeat (first | exact Ext.refl _ | assumption | apply Ext.drewN | apply Ext.drew | apply Ext.alloc)))).mono ?_;rintro e w' ⟨tm,htm,rfl,hrm2,rfl⟩)
    | (go_at_call 225;refine (y8 (o:=hf) (n:=N-hf) (hb9.ext (by repeat (first | exact Ext.refl _ | assumption | apply Ext.drewN | apply Ext.drew | apply Ext.alloc))) hw9 hl9'.out hrm2 (fun a ha _=>by cases ha;exact fun e=>n3 e.symm) (by rw [htm.out];exact tmN) b10 b9 (by rw [dA];exact tot3.out)).mono ?_;rintro e w10 ⟨z10,rfl,hb10,hw10,hl10,hv10,hu10⟩))
   all_goals
    go_end0
    exact FIN.out z10 _ hw10 (by first | exact hb10 | exact hb10.drew | exact hb10.drewN _) hl10.out hv10.out (by first | exact (Upd.of_ext (by repeat (first | exact Ext.refl _ | assumption | apply Ext.drewN | apply Ext.drew | apply Ext.alloc))).trans hu10 | exact ((Upd.of_ext (by repeat (first | exact Ext.refl _ | assumption | apply Ext.drewN | apply Ext.drew | apply Ext.alloc))).trans hu10).drew)
theorem TJ (N:Nat):MT N:=by
 induction N with
 | zero=>intro w A B n cap m cap' xs ys _ _ h;omega
 | succ N IH=>
  intro w A B n cap m cap' xs ys hx hy hN hN2
  have HI:=Lib.hid IH
  clear IH
  go_enter Tryz.func184,Tryz.ntmps184
  go_wp2_with fail
  refine (tE hx).mono ?_
  rintro e w' ⟨p,hp,rfl,hx1,rfl⟩
  go_wp2_with fail
  refine (tE hy).mono ?_
  rintro e w' ⟨q,hq,rfl,hy1,rfl⟩
  have hpn:p≤n:=by rw [hp.out];have:=gJ hx.wf;rw [hx.len] at this;exact this
  have hqm:q≤m:=by rw [hq.out];have:=gJ hy.wf;rw [hy.len] at this;exact this
  go_upto_if 16 with (fail)
  go_cut [0,1] (fun u v wc=>∃A B p q xs' ys',u= we A p p∧v= we B q q∧Rd w A p p xs'∧Rd w B q q ys'∧Hid (nv xs'*nv ys'=nv xs*nv ys)∧q≤p∧p+q≤n+m∧Hid (p+q=(wd (nv xs)).length+(wd (nv ys)).length)∧w=wc)
  case first=>
   by_cases hpq:p<q
   ·go_wp2_with fail
    go_meet
    case rel=>exact⟨B,A,q,p,_,_,rfl,rfl,hy1,hx1,(show _=_ by rw [dA,dA,cL]),by omega,by omega,(show _=_ by rw [←hp.out,←hq.out];omega),rfl⟩
   ·go_wp2_with fail
    go_meet
    case rel=>exact⟨A,B,p,q,_,_,rfl,rfl,hx1,hy1,(show _=_ by rw [dA,dA]),by omega,by omega,(show _=_ by rw [←hp.out,←hq.out]),rfl⟩
  case rest=>
   clear hx1 hy1 hp hq hpn hqm hx hy
   obtain⟨A,B,p,q,xs',ys',rfl,rfl,hx,hy,hXY,hqp,hpq,hK,rfl⟩:=hcut
   have hlx:=Lib.hid hx.len
   have hly:=Lib.hid hy.len
   have hmk:=kN (P:=aN) Tryz.underlying22 iD J (by decide) ((p:Int)+(q:Int)) (by omega) (by omega)
   have et:((p:Int)+(q:Int)).toNat=p+q:=by omega
   rw [et] at hmk
   clear et
   obtain⟨g,hg⟩:∃g,w.heap.size=g:=⟨_,rfl⟩
   obtain⟨wa,hwa⟩:∃wa,w.alloc (.cells (zc (.int .u64 0) (p+q)) 65)=wa:=⟨_,rfl⟩
   have hbk:Bk wa g 65 ((cJ (p+q) 0).map bF):=by
    rw [←hwa,←hg,←j7];exact Bk.new' _ _ _
   have hea:Ext w wa:=by rw [←hwa];exact (Ext.refl w).alloc _
   have hgs:w.heap.size≤g:=by rw [hg];exact aZ _
   have hna:∀a,A=some a→0<p→a.block≠g:=fun a ha hp=>by have:=hx.rv.blk a ha (by have:=hx.rv.le;omega);omega
   have hnb:∀a,B=some a→0<q→a.block≠g:=fun a ha hp=>by have:=hy.rv.blk a ha (by have:=hy.rv.le;omega);omega
   have HNA:=Lib.hid hna
   have HNB:=Lib.hid hnb
   have HG:=Lib.hid hg
   have HWA:=Lib.hid hwa
   clear hna hnb hg hwa
   go_upto_region 6 with (fail)
   rw [HG.out,HWA.out]
   clear hmk HG HWA
   have fin:∀zs' w',Bk w' g 65 (zs'.map bF)→Wf zs'→zs'.length=p+q→nv zs'=nv xs'*nv ys'→Upd g wa w'→EC w (nv xs) (nv ys) (.returned (we (some ⟨g,0,none⟩) (p+q) (p+q))) w':=by
    intro zs' w' h1 h2 h3 h4 h5
    exact⟨_,hK.out,g,zs',rfl,hgs,h1,h2,h3,by show _=_;rw [h4,hXY.out],h5.ext hea hgs⟩
   have FIN:=Lib.hid fin
   clear fin
   by_cases h24:q<24
   ·go_wp2_with fail
    refine (UN hbk J J (hx.ext hea) (hy.ext hea) HNA.out HNB.out (by omega) (by omega)).mono ?_
    rintro e w1 ⟨z1,rfl,hb1,hw1,hl1,hv1,hu1⟩
    go_wp2_with fail
    go_ret
    exact FIN.out z1 w1 hb1 hw1 (by rw [hl1.out,List.length_replicate]) hv1.out hu1
   ·have hb24:decide ((q:Int)<24)=false:=by simp;omega
    by_cases h2q:p<2*q
    ·go_wp2_with fail
     refine (UO (N:=p+q) (fun w A B n cap m cap' xs ys h1 h2 h3 h4=>HI.out w A B n cap m cap' xs ys h1 h2 (by omega) h4) hbk J (hx.ext hea) (hy.ext hea) (fun a ha=>HNA.out a ha (by omega)) (fun a ha=>HNB.out a ha (by omega)) J (by omega) (by omega) hqp h2q).mono ?_
     rintro e w1 ⟨z1,rfl,hb1,hw1,hl1,hv1,hu1⟩
     go_wp2_with fail
     go_ret
     exact FIN.out z1 w1 hb1 hw1 (by rw [hl1.out,List.length_replicate]) hv1.out hu1
    ·have hb2q:decide (2*(q:Int)≤(p:Int))=true:=by simp;omega
     obtain⟨a,_,rfl,_,_,_⟩:=hx.get (i:=0) (by omega)
     go_wp2_with fail
     go_loopw [6] (fun u wr=>∃(i:Nat) (l:List Nat),i≤p+q∧u= no (i:Int)∧Hid (l.length=p+q)∧Wf l∧Bk wr g 65 (l.map bF)∧Hid (nv l=nv (xs'.take i)*nv ys')∧Upd g wa wr) (fun u wr=>p+q-(intOf u).toNat)
     case atStart=>exact⟨0,_,bJ _,rfl,List.length_replicate,mR _,hbk,(show _=_ by rw [xT];simp [nv]),Upd.refl _ _⟩
     case round=>
      obtain⟨i,l,hi,rfl,hll,hwl,hb,hv,hr⟩:=hrel
      clear hbk
      by_cases hip:i<p
      ·obtain⟨e,he⟩:∃e,e=min (i+q) p:=⟨_,rfl⟩
       have he1:i<e:=by omega
       have he2:e≤p:=by omega
       have he3:e≤i+q:=by omega
       have hmin:min ((i:Int)+(q:Int)) (p:Int)=(e:Int):=by omega
       have HE:=Lib.hid he
       clear he
       have hxr:=(hx.ext hea).upd hr (fun a ha=>HNA.out a ha (by omega))
       have hyr:=(hy.ext hea).upd hr (fun a ha=>HNB.out a ha (by omega))
       have hcut:=hxr.cut (l:=i) (k:=e) (m:=e) (by omega) he2 (aZ _) he2
       rw [if_neg (by omega),wH] at hcut
       have hnext:Hid (nv (xs'.take (i+q))*nv ys'=nv l+WB^i*(nv ((xs'.take e).drop i)*nv ys')):=by
        show _=_
        have e1:xs'.take (i+q)=xs'.take e:=by
         rw [HE.out]
         rcases Nat.le_total (i+q) p with h | h
         ·rw [gD h]
         ·rw [Nat.min_eq_right h,List.take_of_length_le (by rw [hlx.out];omega),List.take_of_length_le (by rw [hlx.out];omega)]
        have e2:=oJ (xs'.take e) i (by rw [dH,hlx.out];omega)
        rw [List.take_take,gD (by omega)] at e2
        rw [e1,e2,dK,hv.out,bX]
       have hbnd:Hid (nv l+WB^i*(nv ((xs'.take e).drop i)*nv ys')<WB^(i+(p+q-i))):=by
        show _<_
        rw [←hnext.out,show i+(p+q-i)=p+q from by omega,dU]
        have h1:=iV (s7 hx.wf (i+q))
        have h2:=iV hy.wf
        rw [hly.out] at h2
        have h3:WB^(xs'.take (i+q)).length≤WB^p:=eS gC (by rw [dH,hlx.out];omega)
        exact wJ (dJ h1 h3) h2
       have htm:(wd (nv ((xs'.take e).drop i)*nv ys')).length≤p+q-i:=by
        refine iX ?_
        have h1:=hbnd.out
        refine Nat.lt_of_mul_lt_mul_left (a:=WB^i) ?_
        rw [←dU]
        omega
       have hprod:nv ((xs'.take e).drop i)*nv ys'<WB^(p+q):=by
        have:=hbnd.out
        have h1:0<WB^i:=gB gC
        have h2:=Nat.le_mul_of_pos_left (nv ((xs'.take e).drop i)*nv ys') h1
        rw [show i+(p+q-i)=p+q from by omega] at this
        omega
       have HP:=Lib.hid hprod
       clear hprod
       have b1:i≤1099511627776:=by omega
       have b2:p+q-i≤1099511627776:=by omega
       have b3:e-i+q<N:=by omega
       have b4:e-i+q≤274877906944:=by omega
       have hgr:g<wr.heap.size:=hb.lt
       go_wp2_with fail
       have hk1b:(wd (nv ((xs'.take e).drop i))).length+(wd (nv ys')).length≤e-i+q:=by
        have h1:=gJ hcut.wf
        have h2:=gJ hy.wf
        rw [hcut.len] at h1
        rw [hy.len] at h2
        omega
       have htm':(wd (nv (wd (nv ((xs'.take e).drop i)*nv ys')))).length≤p+q-i:=by rw [dA];exact htm
       have hbnd':Hid (nv l+WB^i*nv (wd (nv ((xs'.take e).drop i)*nv ys'))<WB^(i+(p+q-i))):=by show _<_;rw [dA];exact hbnd.out
       have hll':Hid (l.length=i+(p+q-i)):=by show _=_;rw [hll.out];omega
       have hgwr:g<wr.heap.size:=hb.lt
       go_region_with (first
        | (go_at_call 184;refine (HI.out _ _ _ _ _ _ _ _ _ (hcut.ext (by repeat (first | exact Ext.refl _ | assumption | apply Ext.drewN | apply Ext.drew | apply Ext.alloc))) (hyr.ext (by repeat (first | exact Ext.refl _ | assumption | apply Ext.drewN | apply Ext.drew | apply Ext.alloc))) b3 b4).mono ?_;rintro er w1 ⟨k1,hk1,g1,z1,rfl,hg1,hb1,hw1,hl1,hv1,hx1⟩;have hr1:=NewP.rd hb1 hw1 hl1.out (by rw [hk1.out];omega);have hne1:g1≠g:=(by have h:wr.heap.size≤g1:=hg1;omega);have hx1':Ext wr w1:=Ext.trans (by repeat (first | exact Ext.refl _ | assumption | apply Ext.drewN | apply Ext.drew | apply Ext.alloc)) hx1)
        | (go_at_call 223;refine (tE (hr1.ext (by repeat (first | exact Ext.refl _ | assumption | apply Ext.drewN | apply Ext.drew | apply Ext.alloc))) (hl:=(by rw [hk1.out];omega))).mono ?_;rintro er w' ⟨tm,htm2,rfl,hrm2,rfl⟩;rw [hv1.out] at htm2 hrm2)
        | (go_at_call 225;refine (y8 (o:=i) (n:=p+q-i) (hb.ext hx1') hwl hll'.out hrm2 (fun a ha _=>by cases ha;exact hne1) (by rw [htm2.out];exact htm) b2 b1 hbnd'.out).mono ?_;rintro er w10 ⟨z10,rfl,hb10,hw10,hl10,hv10,hu10⟩))
       all_goals
        go_wp2_with fail
        go_roundw
        case rel=>
         refine⟨i+q,z10,by omega,by go_num,(show _=_ by rw [hl10.out,hll.out]),hw10,by first | exact hb10 | exact hb10.drew | exact hb10.drewN _,?_,?_⟩
         ·show _=_
          rw [hv10.out,dA];exact hnext.out.symm
         ·have u1:Upd g wa w10:=(hr.then_ext hx1').trans (Upd.trans (Upd.of_ext (by repeat (first | exact Ext.refl _ | assumption | apply Ext.drewN | apply Ext.drew | apply Ext.alloc))) hu10)
          first | exact u1 | exact u1.drew | exact u1.drewN _
        case measure=>simp [intOf];omega
      ·have hfull:Hid (nv l=nv xs'*nv ys'):=by
        show _=_
        rw [hv.out,List.take_of_length_le (by rw [hlx.out];omega)]
       go_wp2_with fail
       go_ret
       exact FIN.out l _ hb hwl hll.out hfull.out hr
theorem J7 (hx:Rd w A n cap xs)(hy:Rd w B m cap' ys)(hN:n+m≤274877906944):aP aN 184 #[we A n cap,we B m cap'] w (EC w (nv xs) (nv ys)):=TJ (n+m+1) w A B n cap m cap' xs ys hx hy (by omega) hN
theorem vD (hx:Rd w A n cap xs)(hy:Rd w B m cap' ys)(hN:n+m≤274877906944:=by omega):aP aN 125 #[we A n cap,we B m cap'] w (iF w (nv xs*nv ys)):=by
 go_enter Tryz.func125,Tryz.ntmps125
 go_wp2_with fail
 refine (J7 hx hy hN).mono ?_
 rintro e w1 ⟨k1,hk1,g1,z1,rfl,hg1,hb1,hw1,hl1,hv1,hx1⟩
 have hk1b:k1≤n+m:=by
  rw [hk1.out]
  have h1:=gJ hx.wf
  have h2:=gJ hy.wf
  rw [hx.len] at h1
  rw [hy.len] at h2
  omega
 go_wp2_with fail
 refine (jB (NewP.rd hb1 hw1 hl1.out (by omega))).mono ?_
 rintro e w2 ⟨A2,n2,c2,rfl,hn2,hr2,ho2,hx2⟩
 go_wp2_with fail
 go_ret
 rw [hv1.out] at hn2 hr2 ho2
 exact⟨A2,n2,c2,rfl,hn2,hr2,ho2.mono hx1.size,hx1.trans hx2⟩
theorem CK (hx:Rd w A n cap xs)(hN:n≤137438953472):aP aN 198 #[we A n cap] w (iF w (nv xs*nv xs)):=by
 go_enter Tryz.func198,Tryz.ntmps198
 go_wp2_with fail
 refine (vD hx hx).mono ?_
 rintro e w1 ⟨A2,n2,c2,rfl,h⟩
 go_wp2_with fail
 go_ret
 exact⟨A2,n2,c2,rfl,h⟩
theorem Rd.one (w:a6)(hx:x≤18446744073709551615):Rd (w.alloc (.cells #[up (x:Int)] 65)) (some ⟨w.heap.size,0,none⟩) 1 1 [x]:=
 ⟨Rv.one w 65 _,E6 (by rw [cP];omega)⟩
theorem J4 (hx:Rd w A n cap xs)(hN:n≤137438953472)(hxb:x≤18446744073709551615):aP aN 247 #[we A n cap,up (x:Int)] w (iF w (nv xs*x)):=by
 go_enter Tryz.func247,Tryz.ntmps247
 go_wp2_with fail
 refine (vD (hx.ext (by repeat (first | exact Ext.refl _ | assumption | apply Ext.drewN | apply Ext.drew | apply Ext.alloc))) (Rd.one w hxb)).mono ?_
 rintro e w1 ⟨A2,n2,c2,rfl,hn2,hr2,ho2,hx2⟩
 go_wp2_with fail
 go_ret
 rw [uY] at hn2 hr2 ho2
 exact⟨A2,n2,c2,rfl,hn2,hr2,ho2.mono (by simp),((Ext.refl w).alloc _).trans hx2⟩
theorem Own.word (h:Own w base 65 1 A n cap (xs.map bF))(hw:Wf xs)(hi:i<n):∃g x,A=some ⟨g,0,none⟩∧base≤g∧Hid (xs.getD i 0=x)∧x≤18446744073709551615∧w.cell? ⟨g,i,none⟩=some (up (x:Int))∧w.frozen? ⟨g,i,none⟩=false∧
   ∀u:Nat,Own (w.setCell ⟨g,i,none⟩ (up (u:Int))) base 65 1 (some ⟨g,0,none⟩) n cap ((xs.set i u).map bF):=by
 have q:xs.length=n:=by simpa using h.rv.len
 rcases h with⟨rfl,rfl,rfl,_⟩ | ⟨g,cs,rfl,hb,f,hn,r,hl,p⟩
 ·omega
 ·have e:=tV hw i
  have o:i<cs.length:=by omega
  refine⟨g,_,rfl,hb,rfl,by rw [cP] at e;omega,?_,f.frozen i,fun u=>?_⟩
  ·rw [f.cell o]
   have:cs.getD i undef=(cs.take (n*1)).getD i undef:=by
    simp only [bK,kY]
    rw [if_pos (by omega)]
   rw [this,p]
   simp [bK,mE,cC (show i<xs.length by omega)]
  ·refine Own.mk_ hb (f.set i _) hn r (by rw [List.length_set];exact hl) ?_
   rw [←dX,←p,List.take_set]
def a0B (w:a6)(q r:Nat)(e:dL)(w':a6):Prop:=
 ∃A n cap r',e= .returned (.tuple #[we A n cap,up (r':Nat),no 0])∧Hid (r'=r)∧r'≤18446744073709551615∧Hid (n=(wd q).length)∧Rd w' A n cap (wd q)∧Own w' w.heap.size 65 1 A n cap ((wd q).map bF)∧Ext w w'
theorem NU {rest r' v:Nat}(hk:k<l.length)(h:WB^(k+1)*nv (l.drop (k+1))*v+WB^(k+1)*rest+nv (l.take (k+1))=V)(hx:l.getD k 0=x)(hs:rest*WB+x=d*v+r'):WB^k*nv ((l.set k d).drop k)*v+WB^k*r'+nv ((l.set k d).take k)=V:=by
 have f:(l.set k d).take k=l.take k:=by rw [List.take_set_of_le (aZ k)]
 have o:(l.set k d).drop k=d::l.drop (k+1):=by
  rw [nW (by rw [List.length_set];exact hk)]
  congr 1
  ·simp
  ·rw [List.drop_set_of_lt (by omega)]
 rw [f,o,pO,←h,eT l k hk,hx,cW]
 have q:WB^k*(rest*WB+x)=WB^k*(d*v+r'):=by rw [hs]
 have e:WB^k*(d+WB*nv (l.drop (k+1)))*v=WB^k*WB*nv (l.drop (k+1))*v+WB^k*(d*v):=by
  rw [cI,dK,Nat.add_comm,←bX (WB^k) WB,bX (WB^k) d]
 have p:WB^k*WB*rest=WB^k*(rest*WB):=by rw [bX,cL WB rest]
 rw [e,p]
 simp only [cI] at q
 omega
theorem DE (hx:Rd w A n cap xs)(hl:n≤1099511627775){v:Nat}(hv0:v≠0)(hvb:v≤18446744073709551615):aP aN 235 #[we A n cap,up (v:Int)] w (a0B w (nv xs/v) (nv xs%v)):=by
 have h0:((v:Int)==0)=false:=by simp;omega
 go_enter Tryz.func235,Tryz.ntmps235
 go_wp2_with fail
 refine (jB hx).mono ?_
 rintro e w1 ⟨A1,n1,c1,rfl,hn1,hr1,ho1,hx1⟩
 have hn1b:n1≤n:=by
  have:=gJ hx.wf
  rw [hn1.out,←hx.len];exact this
 clear h0
 have h0:((v:Int)==0)=false:=by simp;omega
 go_wp2_with fail
 obtain⟨l0,hl0⟩:∃l0,wd (nv xs)=l0:=⟨_,rfl⟩
 have hnl0:Hid (nv l0=nv xs):=(show _=_ by rw [←hl0,dA])
 rw [hl0] at hr1 ho1
 have hll0:Hid (l0.length=n1):=hr1.len
 have hwl0:=hr1.wf
 clear hr1 hl0
 go_loopw [9,8] (fun a b wr=>∃(k r:Nat) (l:List Nat),k≤n1∧r<v∧a= no ((k:Int)-1)∧b= up (r:Int)∧Hid (l.length=n1)∧Wf l∧Own wr w.heap.size 65 1 A1 n1 c1 (l.map bF)∧
  Hid (WB^k*nv (l.drop k)*v+WB^k*r+nv (l.take k)=nv xs)∧Ext w wr) (fun a b wr=>(intOf a+1).toNat)
 case atStart=>exact⟨n1,0,l0,aZ _,by omega,by go_num,rfl,hll0,hwl0,ho1,(show _=_ by rw [List.drop_of_length_le (by rw [hll0.out];exact aZ _),List.take_of_length_le (by rw [hll0.out];exact aZ _),hnl0.out];simp [nv]),hx1⟩
 case round=>
  obtain⟨k,r,l,hk,hr,rfl,rfl,hll,hwl,ho,hV,hxr⟩:=hrel
  clear hll0 hwl0 ho1 hnl0
  by_cases hk0:0<k
  ·obtain⟨k,rfl⟩:∃j,k=j+1:=⟨k-1,by omega⟩
   obtain⟨g,x,rfl,hg,hxk,hxb,hc,hfr,hset⟩:=ho.word hwl (i:=k) (by omega)
   have ek:((k+1:Nat):Int)-1=(k:Int):=by omega
   rw [ek]
   go_wp2_with fail
   refine (MD hr hxb hvb _).mono ?_
   rintro e w2 ⟨d,r',hd,hr',hdb,hrv,rfl,m2,hm2⟩
   have hx2:Ext wr w2:=by rw [hm2];exact (Ext.refl wr).drewN m2
   clear hm2
   have ho2:=ho.ext hx2
   obtain⟨g',x',hg',_,_,_,hc2,hfr2,hset2⟩:=ho2.word hwl (i:=k) (by omega)
   cases hg'
   go_wp2_with fail
   go_roundw
   case rel=>
    refine⟨k,r',l.set k d,by omega,hrv,rfl,rfl,(show _=_ by rw [List.length_set];exact hll.out),gR hwl k (by rw [cP];omega),hset2 d,?_,(hxr.trans hx2).setCell hg _⟩
    refine NU (by rw [hll.out];omega) hV.out hxk.out ?_
    rw [hd.out,hr'.out,cL _ v];exact (mV _ _).symm
   case measure=>simp [intOf]
  ·obtain rfl:k=0:=by omega
   have hVl:nv l*v+r=nv xs:=by simpa [nv] using hV.out
   have hq:nv l=nv xs/v:=by rw [←hVl,cL,oV (by omega),i8 hr];rfl
   have hrr:Hid (r=nv xs%v):=(show _=_ by rw [←hVl,cL,Nat.mul_add_mod,gN hr])
   have HQ:=Lib.hid hq
   clear hq hVl
   have ek:((0:Nat):Int)-1= -1:=rfl
   rw [ek]
   go_wp2_with fail
   refine (jB (ho.rd hwl)).mono ?_
   rintro e w2 ⟨A2,n2,c2,rfl,hn2,hr2,ho2,hx2⟩
   rw [HQ.out] at hn2 hr2 ho2
   go_wp2_with fail
   go_ret3
   exact⟨A2,n2,c2,r,rfl,hrr,by omega,hn2,hr2,ho2.mono hxr.size,hxr.trans hx2⟩
def a0E (w:a6)(v n:Nat)(e:dL)(w':a6):Prop:=
 ∃g zs,e= .returned (we (some ⟨g,0,none⟩) n n)∧w.heap.size≤g∧Bk w' g 65 (zs.map bF)∧Wf zs∧Hid (zs.length=n)∧Hid (nv zs=v)∧Ext w w'
theorem QE (hs:s<64):x*2^s%18446744073709551616=(x%2^(64-s))*2^s∧x*2^s=x*2^s%18446744073709551616+WB*(x/2^(64-s)):=by
 have e:18446744073709551616=2^(64-s)*2^s:=by rw [←dU,jO (by omega)]
 have h1:x*2^s%18446744073709551616=(x%2^(64-s))*2^s:=by rw [e,AA]
 refine⟨h1,?_⟩
 rw [h1,cP,e]
 have h2:=iS x (2^(64-s))
 conv=>lhs;rw [←h2]
 rw [dK,bX,cL (x/2^(64-s)),←bX]
theorem QG {c r30 r32:Nat}(hs:s<64)(hx:xs.getD i 0=x)(hi:i<l.length)(hc:c<2^s)(h30:r30=x*2^s%18446744073709551616)(h32:r32=r30||| c)(hd:d=x/2^(64-s))(h:nv (l.take i)+WB^i*c=nv (xs.take i)*2^s):nv ((l.set i r32).take (i+1))+WB^(i+1)*d=nv (xs.take (i+1))*2^s:=by
 obtain⟨o,p⟩:=QE (x:=x) hs
 have q:r32=r30+c:=by rw [h32,h30,o,CA hc]
 have f:nv (xs.take (i+1))=nv (xs.take i)+WB^i*x:=by
  by_cases e:i<xs.length
  ·rw [eT xs i e,hx]
  ·have:x=0:=by rw [←hx];simp [bK,k8 (show xs.length≤i by omega)]
   rw [this,List.take_of_length_le (by omega),List.take_of_length_le (by omega)];simp
 rw [CF hi,f,dK,←h,q,hd,cW,bX (WB^i) WB,bX (WB^i) x,p,←h30]
 simp only [cI]
 omega
theorem QH (hx:x≤18446744073709551615)(hs:s<64):x/2^(64-s)<2^s:=by
 refine wK ?_
 rw [←dU,jO (by omega)]
 omega
theorem LC (hx:Rd w A m cap xs)(_hl:m≤1099511627775)(hs:s<64)(hn:n≤1099511627776)(hmn:m≤n)(hfit:nv xs*2^s<WB^n):aP aN 266 #[we A m cap,up (s:Int),no (n:Int)] w (a0E w (nv xs*2^s) n):=by
 have hlx:=Lib.hid hx.len
 have HF:=Lib.hid hfit
 clear hfit
 have hsi:(s:Int)≤63:=by omega
 have hmk:=kN (P:=aN) Tryz.underlying22 iD J (by decide) (n:Int) (by omega) (by omega)
 rw [gZ] at hmk
 go_enter Tryz.func266,Tryz.ntmps266
 go_wp2_with fail
 clear hmk
 obtain⟨g,hg⟩:∃g,w.heap.size=g:=⟨_,rfl⟩
 rw [hg]
 obtain⟨wa,hwa⟩:∃wa,w.alloc (.cells (zc (.int .u64 0) n) 65)=wa:=⟨_,rfl⟩
 rw [hwa]
 have hbk:Bk wa g 65 ((cJ n 0).map bF):=by
  rw [←hwa,←hg,←j7];exact Bk.new' _ _ _
 have hea:Ext w wa:=by rw [←hwa];exact (Ext.refl w).alloc _
 have hgs:w.heap.size≤g:=by rw [hg];exact aZ _
 clear hg hwa
 go_loopw [15,8] (fun u v wr=>∃(i c:Nat) (l:List Nat),i≤n∧c≤18446744073709551615∧Hid (c<2^s)∧u= no (i:Int)∧v= up (c:Int)∧Hid (l.length=n)∧Wf l∧Bk wr g 65 (l.map bF)∧
  Hid (nv (l.take i)+WB^i*c=nv (xs.take i)*2^s)∧Ext w wr) (fun u v wr=>n-(intOf u).toNat)
 case atStart=>exact⟨0,0,_,bJ _,bJ _,mB s,rfl,rfl,List.length_replicate,mR _,hbk,by simp [Hid,nv],hea⟩
 case round=>
  obtain⟨i,c,l,hi,hcb,hc,rfl,rfl,hll,hwl,hb,hv,hr⟩:=hrel
  clear hbk hea
  by_cases hin:i<n
  ·obtain⟨o,ho,_,hco⟩:=hb.word hwl (i:=i) (by rw [hll.out];omega)
   have hfr:=hb.frozen i
   have key:∀x r32 d r30:Nat,xs.getD i 0=x→r30=x*2^s%18446744073709551616→r32=r30||| c→d=x/2^(64-s)→r32≤18446744073709551615→x≤18446744073709551615→∀w2,Upd g wr w2→Bk w2 g 65 ((l.set i r32).map bF)→Ext w w2→
     ∃(j c:Nat) (l:List Nat),j≤n∧c≤18446744073709551615∧Hid (c<2^s)∧dP .i64 ((i:Int)+1)= no (j:Int)∧dP .u64 (d:Int)= up (c:Int)∧Hid (l.length=n)∧Wf l∧Bk w2 g 65 (l.map bF)∧
      Hid (nv (l.take j)+WB^j*c=nv (xs.take j)*2^s)∧Ext w w2:=by
    intro x r32 d r30 h1 h2 h3 h4 h5 h6 w2 hu hb2 he
    have h7:=QH h6 hs
    rw [←h4] at h7
    have h8:2^s≤2^63:=eS (by omega) (by omega)
    exact⟨i+1,d,l.set i r32,by omega,by omega,h7,rfl,rfl,(show _=_ by rw [List.length_set];exact hll.out),gR hwl i (by rw [cP];omega),hb2,QG hs h1 (by rw [hll.out];omega) hc.out h2 h3 h4 hv.out,he⟩
   have KEY:=Lib.hid key
   clear key
   have hs64:s≤64:=by omega
   by_cases him:i<m
   ·obtain⟨a,x,rfl,hxk,hxb,hcx⟩:=(hx.ext hr).get (i:=i) (by omega)
    by_cases hs0:0<s
    ·go_wp2_with (first
      | ((with_reducible refine d5 (some 30) ?_);refine eC rfl rfl rfl rfl rfl (qQ hs64) ?_;intro r30 h30 hb30)
      | ((with_reducible refine d5 (some 32) ?_);refine eC rfl rfl rfl rfl rfl (uL hb30 hcb) ?_ (hf:=(by have:=qC (n:=64) (x:=r30) (y:=c) (by omega) (by omega);omega));intro r32 h32 hb32)
      | ((with_reducible refine d5 (some 38) ?_);refine eC rfl rfl rfl rfl rfl (qP (x:=64) (y:=s) (by omega)) ?_;intro r38 h38 hb38;obtain rfl:r38=64-s:=(by have:=h38.out;omega))
      | ((with_reducible refine d5 (some 39) ?_);refine eC rfl rfl rfl rfl rfl (oD (s:=64-s) (by omega)) ?_ (hf:=(by have:=fH x (2^(64-s));omega));intro d hd hdb))
     go_roundw
     case rel=>exact KEY.out x r32 d r30 hxk.out h30.out h32.out hd.out hb32 hxb _ ((Upd.refl _ _).setCell _ _) (by rw [←dX];exact hb.set _ _) (hr.setCell hgs _)
     case measure=>simp [intOf];omega
    ·go_wp2_with (first
      | ((with_reducible refine d5 (some 30) ?_);refine eC rfl rfl rfl rfl rfl (qQ hs64) ?_;intro r30 h30 hb30)
      | ((with_reducible refine d5 (some 32) ?_);refine eC rfl rfl rfl rfl rfl (uL hb30 hcb) ?_ (hf:=(by have:=qC (n:=64) (x:=r30) (y:=c) (by omega) (by omega);omega));intro r32 h32 hb32))
     go_roundw
     case rel=>exact KEY.out x r32 0 r30 hxk.out h30.out h32.out (by rw [show s=0 from by omega,i8 (by omega)]) hb32 hxb _ ((Upd.refl _ _).setCell _ _) (by rw [←dX];exact hb.set _ _) (hr.setCell hgs _)
     case measure=>simp [intOf];omega
   ·have hx0:Hid (xs.getD i 0=0):=by
     show _=_
     rw [bK,k8 (by rw [hlx.out];omega)];rfl
    by_cases hs0:0<s
    ·go_wp2_with (first
      | ((with_reducible refine d5 (some 30) ?_);refine eC rfl rfl rfl rfl rfl (qQ (x:=0) hs64) ?_;intro r30 h30 hb30)
      | ((with_reducible refine d5 (some 32) ?_);refine eC rfl rfl rfl rfl rfl (uL hb30 hcb) ?_ (hf:=(by have:=qC (n:=64) (x:=r30) (y:=c) (by omega) (by omega);omega));intro r32 h32 hb32)
      | ((with_reducible refine d5 (some 38) ?_);refine eC rfl rfl rfl rfl rfl (qP (x:=64) (y:=s) (by omega)) ?_;intro r38 h38 hb38;obtain rfl:r38=64-s:=(by have:=h38.out;omega))
      | ((with_reducible refine d5 (some 39) ?_);refine eC rfl rfl rfl rfl rfl (oD (x:=0) (s:=64-s) (by omega)) ?_ (hf:=(by have:=fH 0 (2^(64-s));omega));intro d hd hdb))
     go_roundw
     case rel=>exact KEY.out 0 r32 d r30 hx0.out h30.out h32.out hd.out hb32 (by omega) _ ((Upd.refl _ _).setCell _ _) (by rw [←dX];exact hb.set _ _) (hr.setCell hgs _)
     case measure=>simp [intOf];omega
    ·go_wp2_with (first
      | ((with_reducible refine d5 (some 30) ?_);refine eC rfl rfl rfl rfl rfl (qQ (x:=0) hs64) ?_;intro r30 h30 hb30)
      | ((with_reducible refine d5 (some 32) ?_);refine eC rfl rfl rfl rfl rfl (uL hb30 hcb) ?_ (hf:=(by have:=qC (n:=64) (x:=r30) (y:=c) (by omega) (by omega);omega));intro r32 h32 hb32))
     go_roundw
     case rel=>exact KEY.out 0 r32 0 r30 hx0.out h30.out h32.out (by simp) hb32 (by omega) _ ((Upd.refl _ _).setCell _ _) (by rw [←dX];exact hb.set _ _) (hr.setCell hgs _)
     case measure=>simp [intOf];omega
  ·obtain rfl:i=n:=by omega
   go_wp2_with fail
   go_ret
   refine⟨g,l,rfl,hgs,hb,hwl,hll,?_,hr⟩
   have h1:=hv.out
   rw [List.take_of_length_le (by rw [hll.out];exact aZ _),List.take_of_length_le (by rw [hlx.out];exact hmn)] at h1
   have h2:=HF.out
   show _=_
   rcases jQ c with h0 | h0
   ·rw [h0,gM] at h1;exact h1
   ·have:=Nat.le_mul_of_pos_right (WB^i) h0
    omega
def MZ (g:Nat)(zs:List Nat)(K:Nat)(P:Nat→Nat→Prop)(w w':a6):Prop:=
 ∃zs' c,Bk w' g 65 (zs'.map bF)∧Wf zs'∧Hid (zs'.length=zs.length)∧Hid (zs'.drop K=zs.drop K)∧c≤1∧Hid (P (nv zs') c)∧Upd g w w'
theorem yR (h:i<K)(x:Nat):(l.set i x).drop K=l.drop K:=by rw [List.drop_set_of_lt h]
theorem YU {o:Nat}(hz:Bk w g 65 (zs.map bF))(hwz:Wf zs)(hy:Rd w B m cap' ys)(hne:∀a,B=some a→a.block≠g)(hK:o+m+1≤zs.length)(hm:m≤1099511627776)(_ho:o≤1099511627776):aP aN 269 #[we (some ⟨g,o,none⟩) (m+1) cap,we B m cap'] w (fun e w'=>e= .returned (.tuple #[])∧MZ g zs (o+m+1) (fun v c=>v+WB^(o+m+1)*c=nv zs+WB^o*nv ys) w w'):=by
 have hly:=Lib.hid hy.len
 have HK:=Lib.hid hK
 clear hK
 go_enter Tryz.func269,Tryz.ntmps269
 go_wp2_with fail
 go_loopw [8,4] (fun u v wr=>∃(i c:Nat) (l:List Nat),i≤m∧c≤1∧u= no (i:Int)∧v= up (c:Int)∧Hid (l.length=zs.length)∧Wf l∧Bk wr g 65 (l.map bF)∧Hid (l.drop (o+m+1)=zs.drop (o+m+1))∧
  Hid (nv l+WB^(o+i)*c=nv zs+WB^o*nv (ys.take i))∧Upd g w wr) (fun u v wr=>m-(intOf u).toNat)
 case atStart=>exact⟨0,0,zs,bJ _,bJ _,rfl,rfl,rfl,hwz,hz,rfl,by simp [Hid,nv],Upd.refl _ _⟩
 case round=>
  obtain⟨i,c,l,hi,hc,rfl,rfl,hll,hwl,hb,hdr,hv,hr⟩:=hrel
  by_cases him:i<m
  ·obtain⟨a,y,rfl,hyk,hyb,hcy⟩:=(hy.upd hr hne).get (i:=i) (by omega)
   obtain⟨z,hzk,hzb,hcz⟩:=hb.word hwl (i:=o+i) (by rw [hll.out];have:=HK.out;omega)
   have hfr:=hb.frozen (o+i)
   obtain⟨s,d,hs,hsb,hd,hadd⟩:=zM hc hzb hyb
   go_wp2_with fail
   go_region
   go_wp2_with fail
   go_roundw
   case rel=>exact⟨i+1,d,l.set (o+i) s,by omega,hd,by go_num,rfl,by show _=_;rw [List.length_set];exact hll.out,gR hwl _ (by rw [cP];omega),by rw [←dX];exact (hb.set _ _).drew,
    (show _=_ by rw [yR (by omega)];exact hdr.out),MH (by rw [hll.out];have:=HK.out;omega) hv.out hzk.out (by rw [hly.out];omega) hyk.out hs.out,(hr.setCell _ _).drew⟩
   case measure=>simp [intOf];omega
  ·obtain rfl:i=m:=by omega
   obtain⟨z,hzk,hzb,hcz⟩:=hb.word hwl (i:=o+i) (by rw [hll.out];have:=HK.out;omega)
   have hfr:=hb.frozen (o+i)
   go_wp2_with ((with_reducible refine d5 (some 34) ?_);refine eC J J J J J B5 ?_;intro s hs hsb)
   go_end0
   refine⟨rfl,l.set (o+i) s,(z+c)/18446744073709551616,by rw [←dX];exact hb.set _ _,gR hwl _ (by rw [cP];omega),(show _=_ by rw [List.length_set];exact hll.out),(show _=_ by rw [yR (by omega)];exact hdr.out),by omega,?_,hr.setCell _ _⟩
   have h:=MG (k:=o+i) (c:=c) (s:=s) (d:=(z+c)/18446744073709551616) (by rw [hll.out];have:=HK.out;omega) hv.out hzk.out (by rw [hs.out,cP];exact iS _ _)
   rwa [List.take_of_length_le (by rw [hly.out];exact aZ _)] at h
theorem P7 {o c t z lo:Nat}(hi2:o+i<l.length)(h:nv l+WB^o*(d*nv (ys.take i))=V+WB^(o+i)*(c+t))(hz:l.getD (o+i) 0=z)(hy:i<ys.length)(hyk:ys.getD i 0=y)(hp:lo+WB*hi=d*y)(ha:lo2+WB*cc=lo+c)(hs:s+lo2+t=z+WB*u):nv (l.set (o+i) s)+WB^o*(d*nv (ys.take (i+1)))=V+WB^(o+i+1)*((hi+cc)+u):=by
 have p:=oK hi2 s
 rw [hz] at p
 rw [eT ys i hy,hyk,cI d,cI (WB^o),show WB^o*(d*(WB^i*y))=WB^(o+i)*(d*y) from by rw [dU,Nat.mul_left_comm d,←bX (WB^o)],cW,bX (WB^(o+i)),←hp]
 have e:WB^(o+i)*(s+lo2+t)=WB^(o+i)*(z+WB*u):=by rw [hs]
 have f:WB^(o+i)*(lo2+WB*cc)=WB^(o+i)*(lo+c):=by rw [ha]
 simp only [cI] at e f h⊢
 omega
theorem P6 {c t z A:Nat}(hi2:k<l.length)(h:nv l+A=V+WB^k*(c+t))(hz:l.getD k 0=z)(hs:s+c+t=z+WB*u):nv (l.set k s)+A=V+WB^(k+1)*u:=by
 have f:=oK hi2 s
 rw [hz] at f
 rw [cW,bX]
 have e:WB^k*(s+c+t)=WB^k*(z+WB*u):=by rw [hs]
 simp only [cI] at e h⊢
 omega
theorem P8 {lo c:Nat}(hd:d≤18446744073709551615)(hy:y≤18446744073709551615)(hc:c≤18446744073709551615)(hp:lo+WB*hi=d*y)(ha:lo2+WB*cc=lo+c):hi+cc≤18446744073709551615:=by
 have h1:d*y≤18446744073709551615*18446744073709551615:=jP hd hy
 rw [cP] at hp ha
 omega
theorem YO {o:Nat}(hz:Bk w g 65 (zs.map bF))(hwz:Wf zs)(hy:Rd w B m cap' ys)(hne:∀a,B=some a→a.block≠g)(hK:o+m+1≤zs.length)(hm:m≤1099511627776)(_ho:o≤1099511627776)(hd:d≤18446744073709551615):aP aN 268 #[we (some ⟨g,o,none⟩) (m+1) cap,we B m cap',up (d:Int)] w (fun e w'=>∃b:Bool,e= .returned (.bool b)∧MZ g zs (o+m+1) (fun v c=>(b=true↔c=1)∧v+WB^o*(d*nv ys)=nv zs+WB^(o+m+1)*c) w w'):=by
 have hly:=Lib.hid hy.len
 have HK:=Lib.hid hK
 clear hK
 go_enter Tryz.func268,Tryz.ntmps268
 go_wp2_with fail
 go_loopw [16,7,8] (fun u v x wr=>∃(i c t:Nat) (l:List Nat),i≤m∧c≤18446744073709551615∧t≤1∧u= no (i:Int)∧v= up (c:Int)∧x= up (t:Int)∧Hid (l.length=zs.length)∧Wf l∧Bk wr g 65 (l.map bF)∧Hid (l.drop (o+m+1)=zs.drop (o+m+1))∧
  Hid (nv l+WB^o*(d*nv (ys.take i))=nv zs+WB^(o+i)*(c+t))∧Upd g w wr) (fun u v x wr=>m-(intOf u).toNat)
 case atStart=>exact⟨0,0,0,zs,bJ _,bJ _,bJ _,rfl,rfl,rfl,rfl,hwz,hz,rfl,by simp [Hid,nv],Upd.refl _ _⟩
 case round=>
  obtain⟨i,c,t,l,hi,hc,ht,rfl,rfl,rfl,hll,hwl,hb,hdr,hv,hr⟩:=hrel
  by_cases him:i<m
  ·obtain⟨a,y,rfl,hyk,hyb,hcy⟩:=(hy.upd hr hne).get (i:=i) (by omega)
   obtain⟨z,hzk,hzb,hcz⟩:=hb.word hwl (i:=o+i) (by rw [hll.out];have:=HK.out;omega)
   have hfr:=hb.frozen (o+i)
   go_wp2_with fail
   refine (bits_Mul64 d y hd hyb _).mono ?_
   rintro e w1 ⟨hi',lo,hp,hhb,hlb,rfl,rfl⟩
   obtain⟨lo2,cc,hlo2,hlo2b,hccb,hadd⟩:=vZ hlb hc
   obtain⟨s,u,hs,hsb,hu,hsub⟩:=xD ht hzb hlo2b
   have hcar:(hi':Int)+(cc:Int)≤18446744073709551615:=by have:=P8 hd hyb hc hp.out hlo2.out;omega
   go_wp2_with fail
   go_roundw
   case rel=>exact⟨i+1,hi'+cc,u,l.set (o+i) s,by omega,by omega,hu,by go_num,by go_num,rfl,by show _=_;rw [List.length_set];exact hll.out,gR hwl _ (by rw [cP];omega),by rw [←dX];exact (hb.set _ _),
    (show _=_ by rw [yR (by omega)];exact hdr.out),P7 (by rw [hll.out];have:=HK.out;omega) hv.out hzk.out (by rw [hly.out];omega) hyk.out hp.out hlo2.out hs.out,(hr.setCell _ _)⟩
   case measure=>simp [intOf];omega
  ·obtain rfl:i=m:=by omega
   obtain⟨z,hzk,hzb,hcz⟩:=hb.word hwl (i:=o+i) (by rw [hll.out];have:=HK.out;omega)
   have hfr:=hb.frozen (o+i)
   obtain⟨s,u,hs,hsb,hu,hsub⟩:=xD ht hzb hc
   have hfin:=P6 (k:=o+i) (by rw [hll.out];have:=HK.out;omega) hv.out hzk.out hs.out
   rw [List.take_of_length_le (by rw [hly.out];exact aZ _)] at hfin
   have HFIN:=Lib.hid hfin
   clear hfin
   go_wp2_with fail
   go_ret
   refine⟨_,rfl,l.set (o+i) s,u,by rw [←dX];exact hb.set _ _,gR hwl _ (by rw [cP];omega),(show _=_ by rw [List.length_set];exact hll.out),(show _=_ by rw [yR (by omega)];exact hdr.out),hu,⟨?_,HFIN.out⟩,hr.setCell _ _⟩
   simp
   omega
def MY (u2 u1 u0 v1 v0:Nat)(w:a6)(e:dL)(w':a6):Prop:=
 ∃d:Nat,e= .returned (up (d:Int))∧d≤18446744073709551615∧Hid (d*(v1*WB+v0)≤(u2*WB+u1)*WB+u0)∧Hid (d=18446744073709551615∨(u2*WB+u1)*WB+u0<(d+1)*(v1*WB+v0))∧∃m,w'=w.drewN m
theorem W4 {D T:Nat}(h1:d≤18446744073709551615)(h2:d*V≤T)(h3:d=18446744073709551615∨T<(d+1)*V)(k1:D≤18446744073709551615)(k2:D*V≤T)(k3:D=18446744073709551615∨T<(D+1)*V):d=D:=by
 have key:∀a b:Nat,a≤18446744073709551615→a*V≤T→(b=18446744073709551615∨T<(b+1)*V)→a≤b:=by
  intro a b _ h k
  rcases k with k | k
  ·omega
  ·refine oW (fun e=>?_)
   have:=eI V (nU e)
   rw [Nat.succ_eq_add_one] at this
   omega
 exact Nat.le_antisymm (key _ _ h1 h2 k3) (key _ _ k1 k2 h3)
theorem W6 (T V:Nat)(hV:0<V):∃D:Nat,D≤18446744073709551615∧D*V≤T∧(D=18446744073709551615∨T<(D+1)*V):=by
 by_cases h:T/V≤18446744073709551615
 ·exact⟨T/V,h,Nat.div_mul_le_self _ _,cO (by rw [cL];exact qE T hV)⟩
 ·refine⟨18446744073709551615,aZ _,?_,cH rfl⟩
  have h1:=Nat.div_mul_le_self T V
  have h2:=eI V (Nat.le_of_lt (mU h))
  omega
structure Gs (u2 u1 u0 v1 v0 d rest:Nat):Prop where
 eq:d*v1+rest=u2*WB+u1
 top:d=18446744073709551615∨(u2*WB+u1)*WB+u0<(d+1)*(v1*WB+v0)
theorem Gs.done {rest:Nat}(h:Gs u2 u1 u0 v1 v0 d rest)(hd:d*v0≤rest*WB+u0):d*(v1*WB+v0)≤(u2*WB+u1)*WB+u0:=by
 rw [←h.eq,dK,cI,←bX]
 omega
theorem Gs.step {rest:Nat}(h:Gs u2 u1 u0 v1 v0 (d+1) rest)(hd:rest*WB+u0<(d+1)*v0):Gs u2 u1 u0 v1 v0 d (rest+v1):=by
 refine⟨?_,cO ?_⟩
 ·rw [←h.eq,nT];omega
 ·rw [←h.eq,cI,dK,←bX]
  omega
theorem Gs.cmp {lo p rest:Nat}(hp:lo+WB*hi=p)(hlo:lo≤18446744073709551615)(hu:u0≤18446744073709551615):(hi<rest∨hi=rest∧lo≤u0)↔p≤rest*WB+u0:=by
 rw [←hp,cP]
 omega
theorem Gs.over {rest:Nat}(hd:d≤18446744073709551615)(hv:v0≤18446744073709551615)(hr:18446744073709551616≤rest):d*v0≤rest*WB+u0:=by
 have h1:d*v0≤18446744073709551615*18446744073709551615:=jP hd hv
 rw [cP]
 omega
theorem YT (h2:u2≤v1)(h1:u1≤18446744073709551615)(h0:u0≤18446744073709551615)(hv1:v1≤18446744073709551615)(hv0:v0≤18446744073709551615)(hpos:0<v1)(w:a6):aP aN 267 #[up (u2:Int),up (u1:Int),up (u0:Int),up (v1:Int),up (v0:Int)] w (MY u2 u1 u0 v1 v0 w):=by
 go_enter Tryz.func267,Tryz.ntmps267
 go_wp2_with fail
 go_step3
 go_upto_if 21 with (fail)
 go_cut [11,12] (fun a b wc=>∃d r:Nat,a= up (d:Int)∧b= up (r:Int)∧d≤18446744073709551615∧r≤18446744073709551615∧Hid (Gs u2 u1 u0 v1 v0 d r)∧∃m,wc=w.drewN m)
 case first=>
  by_cases hlt:v1≤u2
  ·obtain⟨s,c,hs,hsb,hc,hadd⟩:=vZ h1 hv1
   have hG:Hid (Gs u2 u1 u0 v1 v0 18446744073709551615 (u1+v1)):=by
    refine⟨?_,cH rfl⟩
    obtain rfl:u2=v1:=by omega
    rw [cP];omega
   by_cases hc0:c=0
   ·subst hc0
    have b0:((0:Int) != 0)=false:=rfl
    go_wp2_with fail
    go_meet
    case rel=>
     have e:s=u1+v1:=by have:=hs.out;omega
     exact⟨18446744073709551615,s,rfl,rfl,by omega,hsb,by rw [e];exact hG,0,rfl⟩
   ·obtain rfl:c=1:=by omega
    have b1:((1:Int) != 0)=true:=rfl
    go_wp2_with fail
    simp only [Exit.noGoto_ret]
    go_ret
    exact⟨18446744073709551615,rfl,by omega,hG.out.done (Gs.over (by omega) hv0 (by have:=hs.out;rw [cP] at this;omega)),cH rfl,0,rfl⟩
  ·go_wp2_with fail
   refine (MD (show u2<v1 by omega) h1 hv1 _).mono ?_
   rintro e w1 ⟨d,r,hd,hr,hdb,hrb,rfl,m1,rfl⟩
   go_wp2_with fail
   go_meet
   case rel=>
    have e1:d*v1+r=u2*WB+u1:=by rw [hd.out,hr.out,cL];exact mV _ _
    refine⟨d,r,rfl,rfl,hdb,by omega,⟨e1,cO ?_⟩,m1,rfl⟩
    rw [←e1,dK,dK,Nat.one_mul,cI,←bX]
    have h3:r*WB+WB≤v1*WB:=by
     have:=eI WB (nU hrb)
     rwa [nT] at this
    have h4:u0<WB:=by rw [cP];omega
    omega
 case rest=>
  obtain⟨d0,r0,rfl,rfl,hd0,hr0,hG0,hx0⟩:=hcut
  go_wp2_with fail
  go_step3
  go_wp2_with fail
  go_loopw [11,12] (fun a b wr=>∃d r:Nat,a= up (d:Int)∧b= up (r:Int)∧d≤18446744073709551615∧r≤18446744073709551615∧Hid (Gs u2 u1 u0 v1 v0 d r)∧wc=wr) (fun a b wr=>(intOf a).toNat)
  case atStart=>exact⟨d0,r0,rfl,rfl,hd0,hr0,hG0,rfl⟩
  case round=>
   obtain⟨d,r,rfl,rfl,hd,hr,hG,rfl⟩:=hrel
   clear hG0 hd0 hr0
   go_wp2_with fail
   refine (bits_Mul64 d v0 hd hv0 _).mono ?_
   rintro e w1 ⟨hi,lo,hp,hhb,hlb,rfl,rfl⟩
   have hcmp:=Lib.hid (Gs.cmp (rest:=r) hp.out hlb h0)
   have fin:∀d:Nat,d≤18446744073709551615→d*(v1*WB+v0)≤(u2*WB+u1)*WB+u0→(d=18446744073709551615∨(u2*WB+u1)*WB+u0<(d+1)*(v1*WB+v0))→MY u2 u1 u0 v1 v0 w (.returned (up (d:Int))) wc:=fun d a b c=>⟨d,rfl,a,b,c,hx0⟩
   have FIN:=Lib.hid fin
   clear fin
   have bad:¬d*v0≤r*WB+u0→∃d',d=d'+1∧Gs u2 u1 u0 v1 v0 d' (r+v1):=by
    intro h
    cases d with
    | zero=>simp at h
    | succ d'=>exact⟨d',rfl,hG.out.step (by omega)⟩
   have BAD:=Lib.hid bad
   clear bad
   obtain⟨s,c,hs,hsb,hc,hadd⟩:=vZ hr hv1
   by_cases hA:hi<r
   ·go_wp2_with fail
    go_ret
    exact FIN.out d hd (hG.out.done (hcmp.out.1 (cH hA))) hG.out.top
   ·by_cases hB:hi=r
    ·have b1:((hi:Int)==(r:Int))=true:=by simp [hB]
     have HB:=Lib.hid hB
     clear hB
     by_cases hC:lo≤u0
     ·go_wp2_with fail
      go_ret
      exact FIN.out d hd (hG.out.done (hcmp.out.1 (cO ⟨HB.out,hC⟩))) hG.out.top
     ·obtain⟨d',rfl,hG'⟩:=BAD.out (fun h=>by have:=hcmp.out.2 h;have:=HB.out;omega)
      have HG':=Lib.hid hG'
      clear hG'
      have ed:((d'+1:Nat):Int)-1=(d':Int):=by omega
      by_cases hc0:c=0
      ·subst hc0
       have b0:((0:Int) != 0)=false:=rfl
       go_wp2_with fail
       go_roundw
       case rel=>exact⟨d',s,rfl,rfl,by omega,hsb,by rw [show s=r+v1 from by have:=hs.out;omega];exact HG',AT⟩
       case measure=>simp [intOf]
      ·obtain rfl:c=1:=by omega
       have b0:((1:Int) != 0)=true:=rfl
       go_wp2_with fail
       go_ret
       exact FIN.out d' (by omega) (HG'.out.done (Gs.over (by omega) hv0 (by have:=hs.out;rw [cP] at this;omega))) HG'.out.top
    ·have b1:((hi:Int)==(r:Int))=false:=by simp;omega
     obtain⟨d',rfl,hG'⟩:=BAD.out (fun h=>by have:=hcmp.out.2 h;omega)
     have HG':=Lib.hid hG'
     clear hG'
     have ed:((d'+1:Nat):Int)-1=(d':Int):=by omega
     by_cases hc0:c=0
     ·subst hc0
      have b0:((0:Int) != 0)=false:=rfl
      go_wp2_with fail
      go_roundw
      case rel=>exact⟨d',s,rfl,rfl,by omega,hsb,by rw [show s=r+v1 from by have:=hs.out;omega];exact HG',AT⟩
      case measure=>simp [intOf]
     ·obtain rfl:c=1:=by omega
      have b0:((1:Int) != 0)=true:=rfl
      go_wp2_with fail
      go_ret
      exact FIN.out d' (by omega) (HG'.out.done (Gs.over (by omega) hv0 (by have:=hs.out;rw [cP] at this;omega))) HG'.out.top
theorem AU (h:n≤9223372036854775807:=by omega):IntKind.i64.wrap (n:Int)=(n:Int):=by
 simp only [wN,uG,uF]
 simp
 omega
theorem CS (hy:y≠0)(hx:x≤9223372036854775807)(P:bW)(t:aS)(w:a6):(binOp .quo t (no (x:Int)) (no (y:Int))).run P w= .ok (no ((x/y:Nat):Int)) w:=by
 have h1:=fH x y
 have e:IntKind.i64.wrap ((x:Int).tdiv (y:Int))=((x/y:Nat):Int):=by
  have:(x:Int).tdiv (y:Int)=((x/y:Nat):Int):=by rw [wO (by omega)];simp
  rw [this,AU]
 simp only [binOp,wI]
 simp [hy]
 rw [show (↑x/ ↑y:Int)=((x/y:Nat):Int) from by simp] at*
 simpa [wO] using e
theorem K3 (hy:y≠0)(hx:x≤9223372036854775807)(P:bW)(t:aS)(w:a6):(binOp .rem t (no (x:Int)) (no (y:Int))).run P w= .ok (no ((x%y:Nat):Int)) w:=by
 have h1:=Nat.mod_le x y
 have e:IntKind.i64.wrap ((x:Int).tmod (y:Int))=((x%y:Nat):Int):=by
  have:(x:Int).tmod (y:Int)=((x%y:Nat):Int):=by rw [Int.tmod_eq_emod_of_nonneg (by omega)];simp
  rw [this,AU]
 simp only [binOp,wI]
 simp [hy]
 rw [show (↑x% ↑y:Int)=((x%y:Nat):Int) from by simp] at*
 simp [Int.tmod_eq_emod_of_nonneg]
theorem mG {Q:dI→Act→a6→Prop}(hgd:o.guard=none){t:aS}{x y:cN}(ho:o.op= .binOp op t x y ty){f:Nat}(hx:a.eval x=vx)(hy:a.eval y=vy)(hne:(op matches .eql | .neq)=false)(hr:∀(P:bW) (t:aS) (w:a6),(binOp op t vx vy).run P w= .ok (no (f:Int)) w)(h:∀r:Nat,Hid (r=f)→wpList P ops Q rest (a.put o.dst (no (r:Int))) w):wpList P ops Q (o::rest) a w:=
 EY hgd ho hx hy hne (fun w=>hr P t w) (h f J)
theorem a0n (hx:x≤18446744073709551615)(hy:y≤18446744073709551615):bits BinOp.or IntKind.u64 (x:Int) (y:Int)=((x||| y:Nat):Int):=by
 have e:IntKind.u64.wrap ((p8 64 (x:Int)||| p8 64 (y:Int)).toNat:Int)=((x||| y:Nat):Int):=by
  rw [BitVec.toNat_or,pM hx,pM hy,nZ,gN (qC (n:=64) (by omega) (by omega))]
 exact e
theorem NT (x k:Nat):IntKind.u64.wrap ((x:Int)*2^k)=((x*2^k%18446744073709551616:Nat):Int):=by
 rw [←nZ];simp
theorem QD (hs:s<64):x/2^s||| (y*2^(64-s)%18446744073709551616)=x/2^s+(y%2^s)*2^(64-s)∨18446744073709551616≤x:=by
 by_cases hx:x<18446744073709551616
 ·left
  have e:18446744073709551616=2^s*2^(64-s):=by rw [←dU,show s+(64-s)=64 from by omega]
  have h1:y*2^(64-s)%18446744073709551616=(y%2^s)*2^(64-s):=by rw [e,AA]
  have h2:x/2^s<2^(64-s):=wK (by rw [←e];exact hx)
  rw [h1,Nat.or_comm,CA h2,Nat.add_comm]
 ·right;omega
theorem G1 {z:Nat}(hi:i<l.length)(hix:i<xs.length)(hx:xs.getD i 0=x)(_hy:xs.getD (i+1) 0=y)(hz:z=x/2^s+(y%2^s)*2^(64-s))(hs:s<64)(h:nv (l.take i)*2^s+r0=nv (xs.take i)+WB^i*(x%2^s)):nv ((l.set i z).take (i+1))*2^s+r0=nv (xs.take (i+1))+WB^(i+1)*(y%2^s):=by
 rw [CF hi,eT xs i hix,hx,dK]
 have o:z*2^s=x/2^s*2^s+WB*(y%2^s):=by
  rw [hz,dK,bX,←dU,jO (by omega),←lQ,cL WB]
 have e:x/2^s*2^s+x%2^s=x:=by rw [cL];exact mV _ _
 have f:WB^i*x=WB^i*(x/2^s*2^s)+WB^i*(x%2^s):=by rw [←cI,e]
 rw [bX (WB^i) z,o,f,cW,bX (WB^i) WB,cI]
 omega
theorem UH (hx:Rd w A m cap xs)(hl:m≤1099511627775)(hn:n≤9223372036854775807):aP aN 118 #[we A m cap,no (n:Int)] w (zQ w (nv xs/2^n) 0):=by
 go_enter Tryz.func118,Tryz.ntmps118
 go_wp2_with fail
 refine (kO hx).mono ?_
 rintro e w' ⟨k,hk,hkn,rfl,rfl⟩
 go_upto_region 4 with (first
  | ((with_reducible refine d5 (some 16) ?_);refine mG rfl rfl rfl rfl rfl (CS (x:=n) (y:=64) (by omega) hn) ?_;intro q hq)
  | ((with_reducible refine d5 (some 18) ?_);refine mG rfl rfl rfl rfl rfl (K3 (x:=n) (y:=64) (by omega) hn) ?_;intro s hs;have hs64:s<64:=(by rw [hs.out];exact f7 _ (by omega));have hqb:q≤9223372036854775807:=(by have:=hq.out;omega)))
 have hnqs:Hid (n=64*q+s):=(show _=_ by rw [hq.out,hs.out];exact (mV _ _).symm)
 clear hq hs
 have hlx:=Lib.hid hx.len
 by_cases hkq:k≤q
 ·go_wp2_with fail
  go_ret2
  refine EA (MP ?_ (Ext.refl w))
  refine i8 ?_
  rw [hnqs.out,dU,Nat.pow_mul,←lQ]
  have h1:=lY (nv xs)
  rw [←hk.out] at h1
  have h2:WB^k≤WB^q:=eS gC hkq
  have h3:=Nat.le_mul_of_pos_right (WB^q) (mB s)
  omega
 ·obtain⟨p,hkp⟩:∃p,k=q+p:=⟨k-q,by omega⟩
  have hp:0<p:=by omega
  obtain⟨ys,hys⟩:∃ys,(xs.take k).drop q=ys:=⟨_,rfl⟩
  have hyl:Hid (ys.length=p):=(show _=_ by rw [←hys,gO,dH,hlx.out];omega)
  have hyv:Hid (nv xs/2^n=nv ys/2^s):=by
   show _=_
   rw [hnqs.out,dU,Nat.pow_mul,←lQ,←Nat.div_div_eq_div_mul]
   congr 1
   have h1:=pN hx.wf hk.out
   have h2:=oJ (xs.take k) q (by rw [dH,hlx.out];omega)
   have h3:=lW (s7 hx.wf k) q
   rw [←h1,h2,hys,Nat.add_comm,oV (gB gC),i8 h3,fC]
  have hyg:Hid (∀i,i<p→ys.getD i 0=xs.getD (q+i) 0):=by
   intro i hi
   rw [←hys]
   simp only [bK,oZ,kY]
   rw [if_pos (by omega)]
  clear hys hk
  have hmk:=kN (P:=aN) Tryz.underlying22 iD J (by decide) ((k:Int)-(q:Int)) (by omega) (by omega)
  have et:((k:Int)-(q:Int)).toNat=p:=by omega
  rw [et] at hmk
  clear et
  have hxn:=Lib.hid hnqs.out
  clear hnqs
  have hnk:¬(k:Int)≤(q:Int):=by omega
  have hnk0:¬(k:Int)-(q:Int)<0:=by omega
  have HL:=Lib.hid hl
  clear hqb hn
  have hkp1:k≤q+p:=by omega
  have hkp2:q+p≤k:=by omega
  clear hkp
  go_wp2_with fail
  clear hmk
  obtain⟨g,hg⟩:∃g,w.heap.size=g:=⟨_,rfl⟩
  rw [hg]
  obtain⟨wa,hwa⟩:∃wa,w.alloc (.cells (zc (.int .u64 0) p) 65)=wa:=⟨_,rfl⟩
  rw [hwa]
  have hbk:Bk wa g 65 ((cJ p 0).map bF):=by
   rw [←hwa,←hg,←j7];exact Bk.new' _ _ _
  have hea:Ext w wa:=by rw [←hwa];exact (Ext.refl w).alloc _
  have hgs:w.heap.size≤g:=by rw [hg];exact aZ _
  clear hg hwa
  have hsb:(s:Int)≤63:=by omega
  have hs64':s≤64:=by omega
  go_loopw [29] (fun u wr=>∃(i:Nat) (l:List Nat),i≤p∧u= no (i:Int)∧Hid (l.length=p)∧Wf l∧Bk wr g 65 (l.map bF)∧
   Hid (nv (l.take i)*2^s+ys.getD 0 0%2^s=nv (ys.take i)+WB^i*(ys.getD i 0%2^s))∧Ext w wr) (fun u wr=>p-(intOf u).toNat)
  case atStart=>exact⟨0,_,bJ _,rfl,List.length_replicate,mR _,hbk,by simp [Hid,nv],hea⟩
  case round=>
   obtain⟨i,l,hi,rfl,hll,hwl,hb,hv,hr⟩:=hrel
   clear hbk hea
   by_cases hip:i<p
   ·obtain⟨a,x,rfl,hxk,hxb,hcx⟩:=(hx.ext hr).get (i:=q+i) (by omega)
    obtain⟨o,ho,_,hco⟩:=hb.word hwl (i:=i) (by rw [hll.out];omega)
    have hfr:=hb.frozen i
    have hxy:Hid (ys.getD i 0=x):=(show _=_ by rw [hyg.out i hip];exact hxk.out)
    by_cases hi1:i+1<p
    ·obtain⟨a',y,ha',hyk,hyb,hcy⟩:=(hx.ext hr).get (i:=q+i+1) (by omega)
     cases ha'
     have hyy:Hid (ys.getD (i+1) 0=y):=(show _=_ by rw [hyg.out (i+1) hi1];exact hyk.out)
     go_upto_region 12 with ((with_reducible refine d5 (some 41) ?_);refine eC J J J J J (oD hs64') ?_ (hf:=(by have:=fH x (2^s);omega));intro z hz hzb)
     obtain⟨w2,hw2⟩:∃w2,wr.setCell ⟨g,i,none⟩ (.int .u64 (z:Int))=w2:=⟨_,rfl⟩
     rw [hw2]
     have hb2:Bk w2 g 65 ((l.set i z).map bF):=by rw [←hw2,←dX];exact hb.set i _
     have hr2:Ext w w2:=by rw [←hw2];exact hr.setCell hgs _
     have hwl2:Wf (l.set i z):=gR hwl i (by rw [cP];omega)
     have hll2:Hid ((l.set i z).length=p):=(show _=_ by rw [List.length_set];exact hll.out)
     have hz2:Hid ((l.set i z).getD i 0=z):=(show _=_ by have:=hll.out;simp [bK,this,hip])
     clear hw2
     obtain⟨z2,hzk2,hzb2,hcz2⟩:=hb2.word hwl2 (i:=i) (by rw [hll2.out];omega)
     obtain rfl:z2=z:=by rw [←hzk2.out,hz2.out]
     have hfr2:=hb2.frozen i
     obtain⟨a2,y2,ha2,hyk2,_,hcy2⟩:=(hx.ext hr2).get (i:=q+i+1) (by omega)
     cases ha2
     obtain rfl:y2=y:=by rw [←hyk2.out,hyk.out]
     clear hcy hco hb hr hfr hcx hzk2 hyk2
     have hcy4:w2.cell? (⟨a.block,a.off+(q+i+1),none⟩:aB)=some (up (y2:Int)):=by simpa [mZ] using hcy2
     clear hcy2
     have hmb:y2*2^(64-s)%18446744073709551616≤18446744073709551615:=by omega
     obtain⟨r,hrd⟩:∃r,z2||| (y2*2^(64-s)%18446744073709551616)=r:=⟨_,rfl⟩
     have hrb:r≤18446744073709551615:=by
      have:=qC (n:=64) (x:=z2) (y:=y2*2^(64-s)%18446744073709551616) (by omega) (by omega)
      omega
     have hbits:Hid (bits BinOp.or IntKind.u64 (z2:Int) (IntKind.u64.wrap ((y2:Int)*2^(64-s)))=(r:Int)):=by
      show _=_
      rw [NT,a0n hzb hmb,hrd]
     have hsum:Hid (r=x/2^s+(y2%2^s)*2^(64-s)):=by
      show _=_
      rw [←hrd,hz.out]
      rcases QD (x:=x) (y:=y2) hs64 with h | h
      ·exact h
      ·omega
     clear hrd hmb
     go_region
     rw [hbits.out]
     go_wp2_with fail
     go_roundw
     case rel=>
      refine⟨i+1,(l.set i z2).set i r,by omega,by go_num,(show _=_ by rw [List.length_set,hll2.out]),gR hwl2 i (by rw [cP];omega),by rw [←dX];exact (hb2.set i _).drew,?_,(hr2.setCell hgs _).drew⟩
      show _=_
      rw [List.set_set,hyy.out]
      exact G1 (by rw [hll.out];omega) (by rw [hyl.out];omega) hxy.out hyy.out hsum.out hs64 (by rw [←hxy.out];exact hv.out)
     case measure=>simp [intOf];omega
    ·have hi2:¬(q:Int)+(i:Int)+1<(k:Int):=by omega
     have hyz:Hid (ys.getD (i+1) 0=0):=by
      show _=_
      rw [bK,k8 (by rw [hyl.out];omega)];rfl
     go_wp2_with ((with_reducible refine d5 (some 41) ?_);refine eC J J J J J (oD hs64') ?_ (hf:=(by have:=fH x (2^s);omega));intro z hz hzb)
     go_roundw
     case rel=>
      refine⟨i+1,l.set i z,by omega,by go_num,(show _=_ by rw [List.length_set,hll.out]),gR hwl i (by rw [cP];omega),by rw [←dX];exact hb.set i _,?_,hr.setCell hgs _⟩
      have:=G1 (l:=l) (y:=0) (z:=z) (by rw [hll.out];omega) (by rw [hyl.out];omega) hxy.out hyz.out (by rw [hz.out];simp) hs64 (by rw [←hxy.out];exact hv.out)
      show _=_
      rw [hyz.out]
      exact this
     case measure=>simp [intOf];omega
   ·obtain rfl:i=p:=by omega
    have hval:Hid (nv l=nv xs/2^n):=by
     show _=_
     have h:=hv.out
     rw [List.take_of_length_le (by rw [hll.out];exact aZ _),List.take_of_length_le (by rw [hyl.out];exact aZ _)] at h
     have h0:ys.getD i 0=0:=by rw [bK,k8 (by rw [hyl.out];exact aZ _)];rfl
     rw [h0,Nat.zero_mod,gM,fC] at h
     have h1:=f7 (ys.getD 0 0) (mB s)
     rw [hyv.out,←h,cL,oV (mB s),i8 h1,fC]
    have hr2:Rd wr (some ⟨g,0,none⟩) i i l:=by
     have:=hb.rd hwl (o:=0) (n:=i) (cap:=i) (aZ _) (by rw [hll.out];omega) (by rw [eG];omega)
     rwa [gP,List.take_of_length_le (by rw [hll.out];omega)] at this
    have hpm:i≤m:=by omega
    clear hkp1 hkp2
    go_wp2_with fail
    refine (kO hr2).mono ?_
    rintro e w' ⟨t,ht,htn,rfl,rfl⟩
    go_wp2_with fail
    go_ret2
    rw [←hval.out]
    exact EA (sB (ys:=l) hgs hb hll.out htn (by rw [eG];omega) (oB hwl ht.out).symm hr)
end
end Go.Proofs.YtkepckmdjncehaaGreatDoor
