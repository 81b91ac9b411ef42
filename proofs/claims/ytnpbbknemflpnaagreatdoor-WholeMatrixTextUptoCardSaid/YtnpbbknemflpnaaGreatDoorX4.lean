/- Parts Rw, Law4, Grp2, Law5s, Tx3, Rdr, Rd1, Rd2, Rd3, Grd, Rd4, Rd5, Rd6, Wrt, Pr1, Pr2, joined. -/
import Derived.Test.YtnpbbknemflpnaaGreatDoorX3
import Derived.Tactics
import Derived.Tactics2
import Derived.Defers
import Derived.Recover
import Derived.Laws.Pointers
import Derived.WalkKit
import Derived.Lib.Builder
import Derived.Lib.AppendStr
import Derived.Lib.UnsafeStr
import Derived.Laws.Externs

open Go renaming Addr → a8, Calls → aU, TypeId → aQ, Value → aC, World → a6
open Go.Addr renaming add → iS
open Go.Instr renaming makeSlice → mQ
open Int renaming natCast_mul → gD
open List renaming append_nil → fA, drop_zero → iR, getD_eq_getElem?_getD → bE, getElem?_eq_getElem → bS, getElem?_eq_none → kV, getElem?_eq_some_iff → eJ, getElem?_map → gR, getElem_mem → jA, length_append → cK, length_cons → cS, length_drop → fN, length_eq_zero_iff → kU, length_take → cV, mem_append → eQ, mem_cons → i6, mem_map → iQ, mem_singleton → fT, replicate → cB
open Nat renaming add_zero → dF, eq_zero_or_pos → gQ, le_refl → aZ, le_trans → aN, lt_of_lt_of_le → cU, lt_trans → kQ, mod_eq_of_lt → eZ, mul_le_mul_right → eG, mul_one → eI, mul_zero → fR, zero_add → dY, zero_le → cE, zero_mul → mL
open Option.some renaming injEq → dR
open Or renaming inl → bY, inr → cA
open Go.Result renaming andThen → pV
open Go.Proofs.Tryz renaming prog → aG
open Go.Value renaming int → bP
namespace Go.Proofs.YtnpbbknemflpnaaGreatDoor
set_option maxHeartbeats 4000000
set_option maxRecDepth 100000
variable {A Aa B FA KA NA:Option a8}{C K R b b' bN c cap d g i j k kc kn m n nc op q tc tn:Nat}{T t:aQ}{X rst ts:List Tk}{a bs ds s sep tx:List Nat}{a' v w w':a6}{cs fs:Array aC}{e en:Int}{es r0 zs:List Int}{l l0:List (List Int)}{nv' u x y z:aC}{sa:Bool}{us vs:List aC}{xs:List (List Nat)}
section
theorem CD (h:d<36):dv (sgn d)=d:=by
 unfold dv sgn
 by_cases h1:d<10
 ·rw [if_pos h1,if_pos (by omega)];omega
 ·rw [if_neg h1,if_neg (by omega),if_pos (by omega)];omega
theorem ET (b:Nat)(l:List Nat):cC b l.reverse=nb b l:=by
 induction l with
 | nil=>rfl
 | cons x r ih=>rw [List.reverse_cons,tD,ih,nK,Nat.mul_comm,Nat.add_comm]
theorem JB (hb2:b≤36){l:List Nat}(h:kL b l):(cN l).map dv=l.reverse:=by
 unfold cN
 rw [List.map_map]
 have:∀x,x∈l.reverse→(dv∘sgn) x=x:=fun x e=>CD (by have:=h x (List.mem_reverse.1 e);omega)
 rw [List.map_congr_left this,List.map_id']
theorem mU (hb:2≤b:=by decide)(hb2:b≤36:=by decide):cC b ((aT b m).map dv)=m:=by
 unfold aT
 split
 ·rename_i h;subst h;show cC b [dv 48]=0;rw [show dv 48=0 by decide];unfold cC;simp
 ·rw [JB hb2 (nT hb m),ET,oW hb]
theorem KJ (hb:2≤b)(hb2:b≤36):kN b (aT b m):=by
 refine⟨fun e=>?_,fun c f=>?_⟩
 ·unfold aT at e
  split at e
  ·cases e
  ·rename_i h
   unfold cN at e
   rw [List.map_eq_nil_iff,List.reverse_eq_nil_iff] at e
   exact h ((vI hb).1 e)
 ·unfold aT at f
  split at f
  ·rw [fT] at f;subst f;rw [show dv 48=0 by decide];omega
  ·unfold cN at f
   obtain⟨d,j,rfl⟩:=iQ.1 f
   have h1:=nT hb m d (List.mem_reverse.1 j)
   rw [CD (by omega)];exact h1
end
section
open Go.RowKit
theorem oH {b:List Nat}(h:a=b):iW .eql a b=some true:=by simp [iW,h]
theorem y3 {b:List Nat}(h:a≠b):iW .eql a b=some false:=by simp [iW,h]
theorem qQ {b:List Nat}(h:a=b):iW .neq a b=some false:=by simp [iW,h]
theorem FK {b:List Nat}(h:a≠b):iW .neq a b=some true:=by simp [iW,h]
end
section
def PE (l:List Nat):Prop:=∀c,c∈l→dv c<10∨c=95
end
section
open Go.RowKit
theorem tP {na ca:Nat}{x:Int}(hx:Zi w sa Aa na ca x)(la:na≤4194304)(hS:Signs w):aU aG 14 #[G sa Aa na ca] w (Gv w (Is (.string (aB (lZ x))))):=by
 have Lx:ln x≤4194304:=aN hx.ln la
 refine bJ Tryz.func14 E (n:=13) E (bq E) (args:= [G sa Aa na ca]) (bH [(0,G sa Aa na ca)] ⟨rfl,i3⟩ (sr (bx (J sa Aa na ca) aF E E E fun F _ j _ _ f=>(mv 1 E (a7 (sr (pf F 1 E (aH E E (aS j3 j E) (cl (vs:= [a9 Aa na ca]) f (GS (hS.ext f) (hx.ext f).wi (by omega)) E (by kernel_rfl) fun _ _ H D e=>?_)))))))))
 obtain rfl:=H
 refine mv 1 E (a7 (aD (aD ?_)))
 by_cases o:x<0
 ·refine aE (lo eB (j.ext D) (J sa Aa na ca) E E E (cl (vs:= [G sa Aa na ca]) e (BF (hx.ext e) (uM la E)) E (by kernel_rfl) fun _ _ q _ h=>?_))
  obtain rfl:=q
  refine aA E E E true (GB o) (a7 (b8 E (sr (mv 1 E (iT E E E (r:= .string (aB (([45])++(aT 10 (Int.natAbs x))))) E (fun w=>jD (a:= [45]) (b:=aT 10 (Int.natAbs x)) (by have:=oG (b:=10) (show (wd (Int.natAbs x)).length≤4194304 from Lx);show 1+_≤_;omega)) (mv 1 E (a7 (aW (bO (aV [.string (aB (([45])++(aT 10 (Int.natAbs x))))] E ⟨rfl,i3⟩ ?_))))))))))
  exact⟨_,rfl,(show Value.string _= .string (aB (lZ x)) by rw [lZ,if_pos o]),h⟩
 ·refine aE (lo eB (j.ext D) (J sa Aa na ca) E E E (cl (vs:= [G sa Aa na ca]) e (BF (hx.ext e) (uM la E)) E (by kernel_rfl) fun _ _ p _ h=>?_))
  obtain rfl:=p
  refine aA E E E false (GC (by omega)) (a7 (aI E (aY (aJ (sr (mv 2 E (a7 (aW (aV [.string (aB (aT 10 (Int.natAbs x)))] E ⟨rfl,i3⟩ ?_)))))))))
  exact⟨_,rfl,(show Value.string _= .string (aB (lZ x)) by rw [lZ,if_neg o]),h⟩
section
variable {P:Program}{Q:Exit→Act→a6→Prop}{n:Nat}{l:Fr}{w:a6}{ops:Array Oper}{rest:List Oper}{d:Nat}{ty:aQ}{pos:String}{af:Array Edge}{gd:Option (Nat×Bool)}
theorem EI {x y:Operand}{e:aQ}(hw:cF ops l gd=some true)(hx:bK l x=some (a4 0))(hy:bK l y=some (a4 (k:Int)))(ht:P.underlying t=some (.slice e))(hinfo:(P.info? e).map (fun i=>(i.zero,i.size,i.bytes))=some (some z,1,b))(hb:b≤64)(hk:k≤1099511627776)(hd:d<n)(h:∀g w',Own w' w.heap.size e 1 (some ⟨g,0,none⟩) 0 k []→Ext w w'→wl P ops Q n rest ((d,a9 (some ⟨g,0,none⟩) 0 k)::l) w'):wl P ops Q n (⟨some d,.makeSlice t x y,ty,pos,af,gd⟩::rest) l w:=by
 obtain⟨i,hi,j,q,f⟩:=info_parts hinfo
 have F:=Nat.mul_le_mul hb hk
 have hr:=run_make (P:=P) w t e i _ ht hi j .i64 .i64 0 (k:Int) (by omega) (by omega) (by rw [f,←gD];omega) (by omega)
 rw [Int.toNat_natCast,show (0:Int).toNat=0 from rfl,q] at hr
 obtain⟨cs,o,p⟩:∃cs:List aC,madeCells z.cells (k*1)=cs.toArray∧cs.length=k*1:=⟨(madeCells z.cells (k*1)).toList,Array.toArray_toList.symm,by rw [Array.length_toList,size_madeCells]⟩
 rw [o] at hr
 refine dU hw hd (fun a' D=>?_) (h _ (w.alloc (.cells cs.toArray e)) (cA ⟨w.heap.size,cs,rfl,aZ _,Bk.new _ _ _,cE _,by rw [eX];omega,p,rfl⟩) ((Ext.refl w).alloc _))
 have e':(mQ t (a'.eval x) (a'.eval y)).run P w= .ok (a9 (some ⟨w.heap.size,0,none⟩) 0 k) (w.alloc (.cells cs.toArray e)):=by rw [D.ev hx,D.ev hy];exact hr
 show ((mQ t (a'.eval x) (a'.eval y)>>=fun r=>pure (Next.value r):Sem Next)).run P w=_
 rw [Sem.run_bind,e'];rfl
end
abbrev nU (bs:List Nat):aC:= .string (aB bs)
theorem AV (s x:List Nat):∀r:List (List Nat),jn s (x::r)=x++(r.map (s++ ·)).flatten
 | []=>by show x=x++ [];rw [fA]
 | y::r=>by
  show x++s++jn s (y::r)=_
  rw [AV s y r,List.map_cons,List.flatten_cons,List.append_assoc,List.append_assoc]
theorem JW (s:List Nat)(l:List (List Nat)):Lib.join (l.map fun x=>(aB x).data.toList) (aB s).data.toList=(jn s l).map UInt8.ofNat:=by
 cases l with
 | nil=>rfl
 | cons x r=>
  have key:∀r:List (List Nat),Lib.joinTail (s.map UInt8.ofNat) (r.map fun x=>(aB x).data.toList)=((r.map (s++ ·)).flatten).map UInt8.ofNat:=fun r=>by
   induction r with
   | nil=>rfl
   | cons y r ih=>
    show (s.map UInt8.ofNat++(aB y).data.toList)++Lib.joinTail (s.map UInt8.ofNat) (r.map fun x=>(aB x).data.toList)=((s++y)++(r.map (s++ ·)).flatten).map UInt8.ofNat
    rw [ih,oI,List.map_append,List.map_append]
  rw [AV,List.map_cons,Lib.join_cons,oI,oI,key,List.map_append]
theorem Own.some_ {s:Nat}(h:Own w b t s A n cap vs)(hn:0<n):∃g,A=some ⟨g,0,none⟩:=by
 rcases h with⟨_,h,_⟩ | ⟨g,cs,e,_⟩
 ·omega
 ·exact⟨g,e⟩
theorem FW {lo hi:Nat}(h:c≠lo):Value.slice (if c=lo then some ⟨g,0,none⟩ else (some (⟨g,0,none⟩:a8)).map (·.add (lo*1))) (hi-lo) (c-lo)= a9 (some ⟨g,lo,none⟩) (hi-lo) (c-lo):=by
 rw [if_neg h,eI,Option.map_some,g7,dY]
theorem BV (hx:Rv w 1 (some ⟨g,0,none⟩) n c (xs.map nU)){o cc:Nat}(hom:o+m≤n)(hm:0<m)(hm4:m≤4096)(hcc:m≤cc)(hl:(jn sep ((xs.drop o).take m)).length≤1099511627776):aU aG 35 #[a9 (some ⟨g,o,none⟩) m cc,.string (aB sep)] w (Gv w (Is (.string (aB (jn sep ((xs.drop o).take m)))))):=by
 have I:xs.length=n:=by have:=hx.len;rwa [List.length_map,eI] at this
 have f:((xs.drop o).take m).length=m:=by rw [cV,fN];omega
 have p:=JW sep ((xs.drop o).take m)
 have D:(((xs.drop o).take m).map aB).map (·.data.toList)=((xs.drop o).take m).map fun x=>(aB x).data.toList:=by rw [List.map_map];rfl
 have h:=Tryz.strings_Join g o cc (((xs.drop o).take m).map aB) (aB sep) w (fun j x p=>by
   rw [gR] at p
   obtain⟨y,q,rfl⟩:=Option.map_eq_some_iff.1 p
   have r:j<m:=by have:=(eJ.1 q).1;omega
   obtain⟨a,M,F⟩:=hx.get (o+j) (by omega)
   cases M
   rw [g7,dY] at F
   rw [F]
   congr 1
   rw [List.getElem?_take,if_pos r,List.getElem?_drop] at q
   rw [bE,gR,q];rfl)
  (hx.blk _ E (by have:=hx.le;omega)) (by rw [List.length_map,f];omega) (by rw [List.length_map,f];exact hcc) (by rw [D,p,List.length_map];omega)
 rw [List.length_map,f] at h
 refine h.mono fun e w' ⟨L,H⟩=>⟨_,L,?_,⟨H⟩⟩
 rw [D,p];rfl
theorem gK:mH (aT 10):=fun m=>by
 have h:=KJ (b:=10) (m:=m) (by decide) (by decide)
 refine⟨h.1,fun c e=>jJ.2 ?_⟩
 have:=h.2 c e
 unfold dv at this
 repeat' split at this
 all_goals omega
theorem xR {z:Int}(h:ln z≤K):(dV (aT 10) z).length≤64*K+2:=by
 have h1:=oG (b:=10) (show (wd z.natAbs).length≤K from h)
 unfold dV
 split
 ·rw [cS];omega
 ·omega
theorem m0 (h:m≤18446744073709551615:=by omega):(aT 10 m).length≤66:=by
 have h1:=oG (b:=10) (n:=1) (show (wd m).length≤1 from lA h);omega
def jK (R C:Nat)(xs:List (List Nat)):List Nat:=if xs= [] then [91]++aT 10 R++ [58]++aT 10 C++ [93] else [91]++jn [59,32] ((dC R C xs).map (jn [32]))++ [93]
theorem zV (R C:Nat)(zs:List Int):bR (aT 10) R C zs=jK R C (zs.map (dV (aT 10))):=by
 unfold bR jK
 by_cases h:zs= []
 ·subst h;rfl
 ·rw [if_neg h,if_neg (by rwa [List.map_eq_nil_iff]),←yO,List.map_map];rfl
theorem FF (h:i<R):((dC R C xs).map (jn [32])).take (i+1)=((dC R C xs).map (jn [32])).take i++ [jn [32] ((xs.drop (i*C)).take C)]:=by
 rw [List.take_add_one,gR,tV h];rfl
theorem yP (h:∀x,x∈xs→x.length≤K)(hC:C≤64):(jn [32] ((xs.drop (i*C)).take C)).length≤64*(K+1):=by
 have f:=oZ (s:= [32]) (K:=K) (l:=(xs.drop (i*C)).take C) (fun y e=>h y (List.mem_of_mem_drop (List.mem_of_mem_take e)))
 refine aN f ?_
 rw [cV]
 exact eG _ (by omega)
theorem HH (h:∀x,x∈xs→x.length≤K)(hR:R≤64)(hC:C≤64):(jn [59,32] ((dC R C xs).map (jn [32]))).length≤64*(64*(K+1)+2):=by
 have h2:=oZ (s:= [59,32]) (K:=64*(K+1)) (l:=(dC R C xs).map (jn [32])) (fun x f=>by
  obtain⟨r,hr,rfl⟩:=iQ.1 f
  obtain⟨i,hi⟩:=List.mem_iff_getElem?.1 hr
  have e:i<R:=by have:=(eJ.1 hi).1;rwa [nB] at this
  rw [tV e,dR] at hi
  rw [←hi];exact yP h hC)
 rw [List.length_map,nB] at h2
 exact aN h2 (eG _ hR)
theorem xS (m:Nat):lZ ((m:Nat):Int)=aT 10 m:=by unfold lZ;rw [if_neg (by omega),Int.natAbs_natCast]
theorem FB (h:k<zs.length):(zs.map (dV (aT 10))).take (k+1)=(zs.map (dV (aT 10))).take k++ [dV (aT 10) (zs.getD k 0)]:=by
 rw [List.take_add_one,gR,bS h,bE,bS h];rfl
theorem M8 (hS:Signs w)(hR:R≤64)(hC:C≤64)(hn:n=0):aU aG 15 #[a4 R,a4 C,a9 A n c] w (Gv w (Is (.string (aB (jK R C []))))):=by
 have aa:=m0 (m:=R)
 have ab:=m0 (m:=C)
 refine bJ Tryz.func15 E (n:=44) E (bq E) (args:= [a4 R,a4 C,a9 A n c]) (bH [(0,a4 R),(1,a4 C),(2,a9 A n c)] ⟨rfl,rfl,rfl,i3⟩ (sr (mv 1 E (a7 (aD (sr (mv 1 E (pu (v:= a4 n) E (aA E E E true (dB (a:=n) (b:=0) E E) (a7 (b8 E (sr (mv 1 E ?_)))))))))))))
 refine cl (vs:= [a4 R]) aF (BG (Ext.refl w).size (by omega) (by omega)) E (by kernel_rfl) fun _ _ V _ e=>?_
 obtain⟨W,U,X,c4,rfl,O⟩:=V
 refine bC E E (vs:= [G W U X c4]) (by kernel_rfl) (by decide) (by have h:=tP O.zi (O.le (aN (lA (by omega)) (by decide))) (hS.ext e);rw [xS] at h;exact h) ?_
 rintro _ _ ⟨_,rfl,Y,Z⟩
 refine bB ?_
 have j:=e.trans Z
 obtain rfl:=Y
 refine iT E E E (r:= .string (aB (([91])++(aT 10 R)))) E (fun w=>jD (a:= [91]) (b:=aT 10 R) (by simp only [cS,List.length_nil];omega)) (iT E E E (r:= .string (aB ((([91])++(aT 10 R))++([58])))) E (fun w=>jD (a:=([91])++(aT 10 R)) (b:= [58]) (by simp only [cK,cS,List.length_nil];omega)) (mv 1 E (cl (vs:= [a4 C]) j (BG j.size (by omega) (by omega)) E (by kernel_rfl) fun _ _ L _ f=>?_)))
 obtain⟨M,p,D,H,rfl,o⟩:=L
 refine bC E E (vs:= [G M p D H]) (by kernel_rfl) (by decide) (by have h:=tP o.zi (o.le (aN (lA (by omega)) (by decide))) (hS.ext f);rw [xS] at h;exact h) ?_
 rintro _ _ ⟨_,rfl,F,I⟩
 refine bB ?_
 have q:=f.trans I
 obtain rfl:=F
 refine iT E E E (r:= .string (aB (((([91])++(aT 10 R))++([58]))++(aT 10 C)))) E (fun w=>jD (a:=(([91])++(aT 10 R))++([58])) (b:=aT 10 C) (by simp only [cK,cS,List.length_nil];omega)) (iT E E E (r:= .string (aB ((((([91])++(aT 10 R))++([58]))++(aT 10 C))++([93])))) E (fun w=>jD (a:=((([91])++(aT 10 R))++([58]))++(aT 10 C)) (b:= [93]) (by simp only [cK,cS,List.length_nil];omega)) (mv 1 E (a7 (aW (bO (aV [.string (aB ((((([91])++(aT 10 R))++([58]))++(aT 10 C))++([93])))] E ⟨rfl,i3⟩ ?_))))))
 exact⟨_,rfl,(show Value.string (aB ((((([91])++(aT 10 R))++([58]))++(aT 10 C))++([93])))=_ by rw [jK,if_pos rfl]),q⟩
theorem M7 (hA:A=some ⟨g,0,none⟩)(hx:Rv w 1 A n c (xs.map nU))(hR:R≤64)(hC:C≤64)(hn:n=R*C)(hn0:0<n)(hK:∀x,x∈xs→x.length≤67108866):aU aG 15 #[a4 R,a4 C,a9 A n c] w (Gv w (Is (.string (aB (jK R C xs))))):=by
 subst hA
 have q:xs.length=n:=by have:=hx.len;rwa [List.length_map,eI] at this
 have ax:=hx.le
 have Z:0<C:=by rcases gQ C with h | h;(· rw [h,fR] at hn;omega);exact h
 have au:0<R:=by rcases gQ R with h | h;(· rw [h,mL] at hn;omega);exact h
 have X:xs≠ []:=fun e=>by rw [e] at q;simp at q;omega
 refine bJ Tryz.func15 E (n:=44) E (bq E) (args:= [a4 R,a4 C,a9 (some ⟨g,0,none⟩) n c]) (bH [(0,a4 R),(1,a4 C),(2,a9 (some ⟨g,0,none⟩) n c)] ⟨rfl,rfl,rfl,i3⟩ (sr (mv 1 E (a7 (aD (sr (mv 1 E (pu (v:= a4 n) E (aA E E E false (bV (a:=n) (b:=0) E E) (a7 (aI E (aY (aJ ?_)))))))))))))
 refine sr (mv 1 E (a7 (aD (sr (mv 2 E (a7 (bI ?_)))))))
 refine dJ (T:=a6×Nat×Option a8×Nat) (fun⟨wr,i,LA,lc⟩=> [(0,a4 R),(1,a4 C),(2,a9 (some ⟨g,0,none⟩) n c),(22,a4 R),(7,a9 LA i lc),(23,a4 i)]) (fun⟨wr,i,LA,lc⟩=>wr) (fun⟨wr,i,LA,lc⟩=>(Ext w wr)∧(i≤R)∧(Own wr w.heap.size 9 1 LA i lc ((((dC R C xs).map (jn [32])).take i).map nU))) (fun⟨wr,i,LA,lc⟩=>R-i)
  (⟨w,0,none,0⟩:a6×Nat×Option a8×Nat) ⟨aF,(cE _),(Own.nil _ _ _ _)⟩ E ⟨rfl,rfl,rfl,rfl,rfl,rfl,i3⟩ ?_
 rintro⟨wr,i,LA,lc⟩ ⟨j,hi,hO⟩
 refine d9 [(0,a4 R),(1,a4 C),(2,a9 (some ⟨g,0,none⟩) n c),(22,a4 R),(7,a9 LA i lc),(23,a4 i)] wr E ⟨rfl,rfl,rfl,rfl,rfl,rfl,i3⟩ (aD ?_)
 by_cases W:i<R
 ·have aw:=Nat.succ_mul i C
  have az:=eG C (show i+1≤R by omega)
  have ap:=lC (i:=i) (by omega) hC
  have ar:=lC (i:=i+1) (by omega) hC
  have aq:=yP (i:=i) hK hC
  have ay:i.succ*C=(i+1)*C:=rfl
  have ba:0<C:=Z
  refine aE (aA E E E true (d5 (a:=i) (b:=R) E E) (a7 (aD (b8 E (aY (aJ (aD (bI (sr (mv 2 E (a7 (aE (mv 1 E ?_)))))))))))))
  refine mv 3 E (bF E E E ((i*C:Nat):Int) (lK (a:=i) (b:=C) E E) (mv 1 E (bF E E E ((i+1:Nat):Int) (d6 (a:=i) (b:=1) E E) (mv 1 E (bF E E E (((i+1)*C:Nat):Int) (lK (a:=i+1) (b:=C) E E) (kA E E qL FH (lo:=i*C) (hi:=(i+1)*C) E E (by omega) (by omega) (v:= a9 (some ⟨g,i*C,none⟩) (((i+1)*C)-(i*C)) (c-(i*C))) (FW (by omega)) (by decide) (bC E E (vs:= [a9 (some ⟨g,i*C,none⟩) (((i+1)*C)-(i*C)) (c-(i*C)),.string (aB ([32]))]) (by kernel_rfl) (by decide) (by have h:=BV (sep:= [32]) (hx.ext j) (o:=i*C) (m:=C) (cc:=c-i*C) (by omega) (by omega) (by omega) (by omega) (by omega);rw [show (i+1)*C-i*C=C by omega];exact h) ?_)))))))
  rintro _ _ ⟨_,rfl,r3,e2⟩
  refine bB ?_
  have f:=j.trans e2
  obtain rfl:=r3
  refine dN E E (k:=1) (e:=9) [.string (aB (jn [32] ((xs.drop (i*C)).take C)))] (fun _=>by kernel_rfl) fun _ _ nb=>?_
  have ab:=nb.bk
  have e7:=nb.ext
  clear nb
  have D:=f.trans e7
  have M:=(hO.ext (e2.t e7))
  refine fB E E E qL uU E M D.size [.string (aB (jn [32] ((xs.drop (i*C)).take C)))] E (iI ab) E fun L F v9 U H _=>?_
  have Y:=H.ext D (fun p hp=>(M.block p hp).1)
  refine mv 1 E (bA (bU (aJ (aE (bF E E E ((i+1:Nat):Int) (d6 (a:=i) (b:=1) E E) (mv 1 E (bA ?_)))))))
  have ai:Own v9 w.heap.size 9 1 L (i+1) F ((((dC R C xs).map (jn [32])).take (i+1)).map nU):=by rw [FF W,List.map_append];exact U
  refine cW (⟨v9,i+1,L,F⟩:a6×Nat×Option a8×Nat) ⟨Y,(by omega),ai⟩ (show R-(i+1)<R-i by omega) E ⟨rfl,rfl,rfl,rfl,rfl,rfl,i3⟩
 ·refine aE (aA E E E false (f8 (a:=i) (b:=R) E E) (a7 (aD (aI E (dA (d7 (dG (d8 (aJ (aD ?_))))))))))
  have O:((((dC R C xs).map (jn [32])).take i).drop 0).take i=(dC R C xs).map (jn [32]):=by rw [iR,List.take_take,Nat.min_self];exact List.take_of_length_le (by rw [List.length_map,nB];omega)
  refine aE (mv 1 E ?_)
  obtain⟨gl,ah⟩:=(hO).some_ (by omega)
  have I:=HH hK hR hC
  refine bC E E (vs:= [a9 LA i lc,.string (aB ([59,32]))]) (by kernel_rfl) (by decide) (by have hq:=(hO).rv;rw [ah] at hq⊢;have h:=BV (sep:= [59,32]) hq (o:=0) (m:=i) (cc:=lc) (by omega) (by omega) (by omega) hq.le (by rw [O];omega);rw [O] at h;exact h) ?_
  rintro _ _ ⟨_,rfl,V,ae⟩
  refine bB ?_
  have f:=j.trans ae
  obtain rfl:=V
  refine iT E E E (r:= .string (aB (([91])++(jn [59,32] ((dC R C xs).map (jn [32])))))) E (fun w=>jD (a:= [91]) (b:=jn [59,32] ((dC R C xs).map (jn [32]))) (by have:=I;simp only [cS,List.length_nil];omega)) (iT E E E (r:= .string (aB ((([91])++(jn [59,32] ((dC R C xs).map (jn [32]))))++([93])))) E (fun w=>jD (a:=([91])++(jn [59,32] ((dC R C xs).map (jn [32])))) (b:= [93]) (by have:=I;simp only [cK,cS,List.length_nil];omega)) (mv 1 E (a7 (aW (aV [.string (aB ((([91])++(jn [59,32] ((dC R C xs).map (jn [32]))))++([93])))] E ⟨rfl,i3⟩ ?_)))))
  exact⟨_,rfl,(show Value.string (aB ((([91])++(jn [59,32] ((dC R C xs).map (jn [32]))))++([93])))=_ by rw [jK,if_neg X]),f⟩
theorem pD (hS:Signs w)(hxa:ZF w A n cap 1048576 zs)(hR:R≤64)(hC:C≤64)(hn:n=R*C):aU aG 4 #[.agg #[a4 R,a4 C,a9 A n cap]] w (Gv w (T2 (Is (.string (aB (bR (aT 10) R C zs)))) (Is (a4 0)))):=by
 obtain⟨ms,bh,br⟩:=id hxa
 have ce:=hxa.len
 have hs:jV ((R:Nat):Int) ((C:Nat):Int) n:=⟨⟨by omega,by omega⟩,⟨by omega,by omega⟩,by rw [hn];exact gD _ _⟩
 have ci:n≤4096:=hn▸lC hR hC
 refine bJ Tryz.func4 E (n:=36) E (bq E) (args:= [.agg #[a4 R,a4 C,a9 A n cap]]) (bH [(0,.agg #[a4 R,a4 C,a9 A n cap])] ⟨rfl,i3⟩ (sr (bx [a4 R,a4 C,a9 A n cap] aF E E E fun I _ U _ _ h=>(mv 2 E (a7 (aD (sr (lo dP U [a4 R,a4 C,a9 A n cap] E E E (cl (vs:= [.agg #[a4 R,a4 C,a9 A n cap]]) h (LQ hs) E (by kernel_rfl) fun _ _ r8 e7 f=>?_)))))))))
 obtain rfl:=r8
 refine mv 1 E (a7 (sr (mv 1 E (aA E E E false (by decide) (a7 (aI E (aY (aJ (sr (pf I 2 E (aH E E (aS jS (U.ext e7) E) (pu (v:= a4 n) E (EI (k:=n) E E E qL uU (by decide) (by omega) (by decide) fun g9 ay o ab=>?_)))))))))))))
 have o:=o.mono f.size
 have j:=f.trans ab
 refine mv 1 E (a7 (aD (sr (pf I 2 E (aH E E (aS jS (U.ext (e7.t ab)) E) (pu (v:= a4 n) E (mv 1 E (a7 (bI ?_)))))))))
 refine dJ (T:=a6×Nat×Option a8×Nat) (fun⟨wr,k,SA,sc⟩=> [(1,a1 I 0),(5,a9 SA k sc),(18,a9 A n cap),(19,a4 n),(20,a4 k)]) (fun⟨wr,k,SA,sc⟩=>wr) (fun⟨wr,k,SA,sc⟩=>(Ext w wr)∧(k≤n)∧(Own wr w.heap.size 9 1 SA k sc (((zs.map (dV (aT 10))).take k).map nU))∧(Bk wr I 24 [a4 R,a4 C,a9 A n cap])) (fun⟨wr,k,SA,sc⟩=>n-k)
  (⟨ay,0,(some ⟨g9,0,none⟩),n⟩:a6×Nat×Option a8×Nat) ⟨j,(cE _),o,(U.ext (e7.t ab))⟩ E ⟨rfl,rfl,rfl,rfl,rfl,i3⟩ ?_
 rintro⟨wr,k,SA,sc⟩ ⟨h,_,hO,hB⟩
 refine d9 [(1,a1 I 0),(5,a9 SA k sc),(18,a9 A n cap),(19,a4 n),(20,a4 k)] wr E ⟨rfl,rfl,rfl,rfl,rfl,i3⟩ (aD ?_)
 by_cases cj:k<n
 ·refine aE (aA E E E true (d5 (a:=k) (b:=n) E E) (a7 (aD (b8 E (aY (aJ (aD (bI (sr ?_)))))))))
  obtain⟨aj,r,H,D,Y,ae,aq⟩:=bh.at (i:=k) (by omega)
  refine cG E E E kG eB.size k E aj Y (aH E E (ae _ h _ _ eB) (eK E (z:= .agg #[F0,S0]) (vs:= [F0,S0]) (fun _=>by kernel_rfl) E fun M _ nb=>?_))
  have W:=nb.bk
  have ai:w.heap.size≤M:=by rw [←nb.at_];exact h.size
  have cg:I<M:=by rw [←nb.at_];exact hB.lt
  have aa:∀p:a8,SA=some p→p.block<M:=fun p hp=>by have:=((hO).block p hp).2;have:=nb.at_;omega
  have ak:∀p:a8,SA=some p→p.block≠M:=fun p hp=>Nat.ne_of_lt (aa p hp)
  have O:=nb.ext
  clear nb
  have f:=h.trans O
  refine so eB W [.bool r,a9 H (ms.getD k 0) D] f ai E E E E fun _ V ah j=>(a7 (aE (mv 1 E (lo eB V [.bool r,a9 H (ms.getD k 0) D] E E E (cl (vs:= [.agg #[.bool r,a9 H (ms.getD k 0) D]]) j (tP (aq.ext j) (aN (br k) (by decide)) (hS.ext j)) E (by kernel_rfl) fun _ _ bf L bd=>?_)))))
  obtain rfl:=bf
  refine dN E E (k:=1) (e:=9) [.string (aB (dV (aT 10) (zs.getD k 0)))] (fun _=>by kernel_rfl) fun _ _ nb=>?_
  have ao:=nb.bk
  have q:=nb.ext
  clear nb
  have aw:=bd.trans q
  have F:=(((hO.ext O).updT W (by decide) ah).ext (L.t q))
  refine fB E E E qL uU E F aw.size [.string (aB (dV (aT 10) (zs.getD k 0)))] E (iI ao) E fun am ax ar av X ap=>?_
  have ba:=X.ext aw (fun p hp=>(F.block p hp).1)
  have cb:=jI ap (V.ext (L.t q)).lt ak
  refine mv 1 E (bA (bU (aJ (aE (bF E E E ((k+1:Nat):Int) (d6 (a:=k) (b:=1) E E) (mv 1 E (bA ?_)))))))
  have bi:Own ar w.heap.size 9 1 am (k+1) ax (((zs.map (dV (aT 10))).take (k+1)).map nU):=by rw [FB (by omega),List.map_append];exact av
  refine cW (⟨ar,k+1,am,ax⟩:a6×Nat×Option a8×Nat) ⟨ba,(by omega),bi,((((hB.ext O).vN ah).ext (L.t q)).updO X (cT F (((hB.ext O).vN ah).ext (L.t q)) (by decide)))⟩ (show n-(k+1)<n-k by omega) E ⟨rfl,rfl,rfl,rfl,rfl,i3⟩
 ·refine aE (aA E E E false (f8 (a:=k) (b:=n) E E) (a7 (aD (aI E (dA (d7 (dG (d8 (aJ (aD ?_))))))))))
  obtain rfl:k=n:=by omega
  by_cases bv:k=0
  ·have bo:zs= []:=kU.1 (by omega)
   refine aE (pf I 0 E (aH E E (aS bL hB E) (pf I 1 E (aH E E (aS bL hB E) (mv 1 E (cl (vs:= [a4 R,a4 C,a9 SA k sc]) h (M8 (hS.ext h) hR hC bv) E (by kernel_rfl) fun _ _ bw _ f=>?_))))))
   obtain rfl:=bw
   refine mv 2 E (a7 (aW (aV [.string (aB (jK R C [])),I0] E ⟨rfl,rfl,i3⟩ ?_)))
   exact⟨_,rfl,⟨_,_,rfl,(show Value.string (aB (jK R C []))=_ by rw [zV,bo];rfl),rfl⟩,f⟩
  ·have Z:=hO
   rw [List.take_of_length_le (show (zs.map (dV (aT 10))).length≤k by rw [List.length_map];omega)] at Z
   obtain⟨gl,bj⟩:=Z.some_ (by omega)
   have az:=Z.rv
   have hK:∀x,x∈(zs.map (dV (aT 10)))→x.length≤67108866:=fun x hx=>by obtain⟨z,hz,rfl⟩:=iQ.1 hx;obtain⟨i,hi⟩:=List.mem_iff_getElem?.1 hz;have h8:=hxa.ln i;rw [bE,hi] at h8;exact xR h8
   refine aE (pf I 0 E (aH E E (aS bL hB E) (pf I 1 E (aH E E (aS bL hB E) (mv 1 E (cl (vs:= [a4 R,a4 C,a9 SA k sc]) h (M7 bj (xs:=(zs.map (dV (aT 10)))) az hR hC hn (by omega) hK) E (by kernel_rfl) fun _ _ bu _ f=>?_))))))
   obtain rfl:=bu
   refine mv 2 E (a7 (aW (aV [.string (aB (jK R C (zs.map (dV (aT 10))))),I0] E ⟨rfl,rfl,i3⟩ ?_)))
   exact⟨_,rfl,⟨_,_,rfl,(show Value.string (aB (jK R C (zs.map (dV (aT 10)))))=_ by rw [zV]),rfl⟩,f⟩
theorem MG {R C:Int}(hs:¬jV R C n):aU aG 4 #[.agg #[a4 R,a4 C,a9 A n cap]] w (Gv w (T2 (Is (.string (aB []))) (Is (a4 1)))):=by
 refine bJ Tryz.func4 E (n:=36) E (bq E) (args:= [.agg #[a4 R,a4 C,a9 A n cap]]) (bH [(0,.agg #[a4 R,a4 C,a9 A n cap])] ⟨rfl,i3⟩ (sr (bx [a4 R,a4 C,a9 A n cap] aF E E E fun _ _ e _ _ f=>(mv 2 E (a7 (aD (sr (lo dP e [a4 R,a4 C,a9 A n cap] E E E (cl (vs:= [.agg #[a4 R,a4 C,a9 A n cap]]) f (LR hs) E (by kernel_rfl) fun _ _ j _ h=>?_)))))))))
 obtain rfl:=j
 refine mv 1 E (a7 (sr (mv 1 E (aA E E E true (by decide) (a7 (b8 E (sr (mv 3 E (a7 (aW (bO (aV [.string (aB ([])),a4 1] E ⟨rfl,rfl,i3⟩ ?_))))))))))))
 exact⟨_,rfl,⟨_,_,rfl,rfl,rfl⟩,h⟩
structure Up2 (g k:Nat)(w w':a6):Prop where
 os:w'.os=w.os
 tape:w'.tape=w.tape
 output:w'.output=w.output
 size:w.heap.size≤w'.heap.size
 block:∀i,i<w.heap.size→i≠g→i≠k→w'.heap[i]?=w.heap[i]?
section
variable {g k:Nat}{a w w':a6}
theorem Up2.refl (g k:Nat)(w:a6):Up2 g k w w:=⟨rfl,rfl,rfl,aZ _,fun _ _ _ _=>rfl⟩
theorem Up2.then_ext (h:Up2 g k a w)(e:Ext w w'):Up2 g k a w':=⟨e.below.os.trans h.os,e.below.tape.trans h.tape,e.below.output.trans h.output,aN h.size e.size,fun i hi h1 h2=>(e.below.block i (cU hi h.size)).trans (h.block i hi h1 h2)⟩
theorem Up2.updU (h:Up2 g k a w)(u:Upd j w w')(hj:j=g∨j=k∨a.heap.size≤j):Up2 g k a w':=
 ⟨u.by_.os.trans h.os,u.by_.tape.trans h.tape,u.by_.output.trans h.output,aN h.size u.by_.size,fun i hi h1 h2=>(u.by_.block i (cU hi h.size) (fun e=>by injection e with e;omega)).trans (h.block i hi h1 h2)⟩
theorem Up2.toExt (h:Up2 g k w w')(e:Ext a' w)(hg:a'.heap.size≤g)(hk:a'.heap.size≤k):Ext a' w':=
 ⟨⟨h.os.trans e.below.os,h.tape.trans e.below.tape,h.output.trans e.below.output,aN e.size h.size,fun i hi=>(h.block i (cU hi e.size) (by omega) (by omega)).trans (e.below.block i hi)⟩⟩
theorem Up2.bk (u:Up2 g k w w')(h:Bk w j t vs)(hg:j≠g)(hk:j≠k):Bk w' j t vs:=(u.block j h.lt hg hk).trans h
end
def DJ (w:a6)(A:Option a8)(n c:Nat)(ts:List Tk):Prop:=∃cs,Rv w 3 A n c (eL n (jC ts cs))∧ts.length=n
theorem TokO.tv (h:TokO w b A n c ts):DJ w A n c ts:=by obtain⟨cs,_,h1,h2⟩:=h;exact⟨cs,h2.rv,h1⟩
structure Rdr (w:a6)(g:Nat)(A:Option a8)(n c:Nat)(en:Int)(ts:List Tk)(i:Nat)(nv:aC):Prop where
 hb:Bk w g 64 [a9 A n c,a4 i,a4 en,a4 0,nv]
 tk:DJ w A n c ts
 lt:∀p,A=some p→p.block<g
 low:∀t,t∈ts→∀b,b∈t.2→b<256
 le:i≤n
 lim:n≤549755813888
section
variable {w w':a6}{g:Nat}{A:Option a8}{n c i:Nat}{en:Int}{ts:List Tk}{nv:aC}
theorem Rdr.ne (h:Rdr w g A n c en ts i nv):∀p,A=some p→p.block≠g:=fun p e=>Nat.ne_of_lt (h.lt p e)
theorem Rdr.len (h:Rdr w g A n c en ts i nv):ts.length=n:=by obtain⟨_,_,h⟩:=h.tk;exact h
theorem Rdr.ext (h:Rdr w g A n c en ts i nv)(e:Ext w w'):Rdr w' g A n c en ts i nv:=
 ⟨h.hb.ext e,by obtain⟨cs,h1,h2⟩:=h.tk;exact⟨cs,h1.ext e,h2⟩,h.lt,h.low,h.le,h.lim⟩
theorem Rdr.upd (h:Rdr w g A n c en ts i nv)(u:Upd k w w')(hg:g≠k)(hA:∀p,A=some p→p.block≠k):Rdr w' g A n c en ts i nv:=
 ⟨h.hb.upd u hg,by obtain⟨cs,h1,h2⟩:=h.tk;exact⟨cs,h1.upd u hA,h2⟩,h.lt,h.low,h.le,h.lim⟩
theorem Rdr.updO (h:Rdr w g A n c en ts i nv)(u:UpdO B w w')(hg:∀p,B=some p→p.block≠g)(hA:∀p q,B=some p→A=some q→p.block≠q.block):Rdr w' g A n c en ts i nv:=
 ⟨h.hb.updO u hg,by obtain⟨cs,h1,h2⟩:=h.tk;exact⟨cs,h1.updO u hA,h2⟩,h.lt,h.low,h.le,h.lim⟩
theorem Rdr.set (h:Rdr w g A n c en ts i nv)(u:Upd g w w')(hb:Bk w' g 64 [a9 A n c,a4 j,a4 en,a4 0,nv'])(hj:j≤n):Rdr w' g A n c en ts j nv':=
 ⟨hb,by obtain⟨cs,h1,h2⟩:=h.tk;exact⟨cs,h1.upd u h.ne,h2⟩,h.lt,h.low,hj,h.lim⟩
theorem Rdr.at (h:Rdr w g A n c en ts i nv)(hj:j<n):∃p,A.map (·.add (j*3))=some p∧∃col:Nat,w.cell? p=some (a4 (((ts.getD j (0,[])).1:Nat):Int))∧w.cell? (p.add 1)=some (.string (aB (ts.getD j (0,[])).2))∧w.cell? (p.add 2)=some (a4 col):=by
 obtain⟨cs,h1,h2⟩:=h.tk
 obtain⟨p,e,q,f,o⟩:=h1.at3 hj
 exact⟨p,e,_,q,f,o⟩
theorem Rdr.low_at (h:Rdr w g A n c en ts i nv)(hj:j<n):∀b,b∈(ts.getD j (0,[])).2→b<256:=by
 have:=h.len
 rw [bE,bS (by omega)]
 exact h.low _ (jA _)
end
def i8 (t:Option Tk)(k:Nat)(x:List Nat):Bool:=match t with
 | none=>false
 | some t=>decide (t.1=k)&&(decide (k≠3)||decide (t.2=x))
theorem getD_some {t:Tk}(h:ts[j]?=some t):ts.getD j (0,[])=t:=by rw [bE,h];rfl
theorem qO (h:j<ts.length:=by omega):ts[j]?=some (ts.getD j (0,[])):=by rw [bE,bS h];rfl
theorem hZ {r:List Tk}{t:Tk}(h:ts.drop j=t::r):ts[j]?=some t∧ts.drop (j+1)=r∧j+1≤ts.length:=by
 have hl:j<ts.length:=by
  have:=congrArg List.length h
  rw [fN,cS] at this;omega
 rw [List.drop_eq_getElem_cons hl,List.cons.injEq] at h
 exact⟨by rw [bS hl,h.1],h.2,hl⟩
theorem nQ (h:ts.drop j= []):ts[j]?=none:=kV (List.drop_eq_nil_iff.1 h)
def RG (w:a6)(g:Nat)(A:Option a8)(n c:Nat)(en:Int)(ts:List Tk)(i:Nat)(nv:aC)(R:aC→a6→Prop)(e:Ending)(w':a6):Prop:=
 ∃v,e= .returned v∧R v w'∧Upd g w w'∧Rdr w' g A n c en ts i nv
theorem RG.imp {nv:aC}{R S:aC→a6→Prop}(h:∀v w',R v w'→S v w')(e:Ending)(w':a6)(k:RG w g A n c en ts i nv R e w'):RG w g A n c en ts i nv S e w':=by
 obtain⟨v,h1,h2,f⟩:=k;exact⟨v,h1,h _ _ h2,f⟩
theorem vY:AggT aG 56 2:=⟨fun _=>by kernel_rfl,fun _=>by kernel_rfl⟩
theorem KH (h:ds≠ []∧∀c,c∈ds→aM c=3):eY false ds=some ds:=by
 have key:∀l:List Nat,(∀c,c∈l→aM c=3)→eY true l=some l:=fun l=>by
  induction l with
  | nil=>intro _;rfl
  | cons c l ih=>
   intro h
   have hc:=jJ.1 (h c (by simp))
   have hd:dv c<10:=by unfold dv;rw [if_pos hc];omega
   rw [eY,if_neg (by omega),if_pos hd,ih fun x hx=>h x (by simp [hx])];rfl
 cases ds with
 | nil=>exact absurd rfl h.1
 | cons c l=>
  have hc:=jJ.1 (h.2 c (by simp))
  have hd:dv c<10:=by unfold dv;rw [if_pos hc];omega
  rw [eY,if_neg (by omega),if_pos hd,key l fun x hx=>h.2 x (by simp [hx])];rfl
theorem O4 {x y:Nat}(h:x≤y):c8 .gtr (eF x y) 0=some false:=AZ (by have:=vL (a:=x) (b:=y);omega)
theorem AL (h:m≤18446744073709551615):(wd m).length≤1:=lA h
theorem G2 (h:Own w b 50 1 A n c ((wd q).map bG))(hn:n=(wd q).length)(h1:n=1):∃p,A.map (·.add (0*1))=some p∧w.cell? p=some (a5 q):=by
 obtain⟨p,j,f,_⟩:=(h.rd (mE _)).at (i:=0) (by omega)
 refine⟨p,j,?_⟩
 have e:(wd q).getD 0 0=q:=by
  have h2:=dS q
  rcases hw:wd q with _ | ⟨x,r⟩
  ·rw [hw] at hn;simp at hn;omega
  ·rw [hw] at hn h2
   have:r= []:=kU.1 (by simp at hn;omega)
   subst this
   rw [←h2];simp [nv]
 rw [e] at f;exact f
theorem rN {TA:Option a8}{nv:aC}(hR:Rdr w g TA tn tc en ts i nv):aU aG 22 #[a1 g 0] w (Gv w (Is (.bool (decide (tn≤i))))):=by
 refine bJ Tryz.func22 E (n:=13) E (bq E) (args:= [a1 g 0]) ?_
 have q:=hR.hb.lt
 have I:=hR.le
 have F:=hR.lim
 have L:=hR.len
 have H:∀p,TA=some p→p.block<g:=hR.lt
 refine bH [(0,a1 g 0)] ⟨rfl,i3⟩ (sr (mv 1 E (a7 (aD ?_))))
 by_cases M:i≥tn
 ·refine fG eR 10 [] [Is (a1 g 0),Is (a1 g 0),Is (a1 g 1),Is (a4 i),Is (a1 g 0),Is (a1 g 0),Is (a1 g 0),Is (a9 TA tn tc),Is (a4 tn),Is (gx)] [[],[0],[1],[2],[],[4],[5],[6],[7],[3,8]] [[],[0],[0,1],[0,1,2],[],[4],[4,5],[4,5,6],[4,5,6,7],[0,1,2,3,4,5,6,7,8],[0,1,2,3,4,5,6,7,8,9]] rfl
   (aP E E (aK E E ?_) (aP E E (aK E E ?_) (aP E E (aK E E ?_) (aP E E (aK E E ?_) (aP E E (aK E E ?_) (aP E E (aK E E ?_) (aP E E (aK E E ?_) (aP E E (aK E E ?_) (aP E E (aK E E ?_) (aP E E (aK E E ?_) fE)))))))))) ?_
  ·exact fun _ _=>aL (mv 1 E (aO E aF E))
  ·exact fun _ _=>dk E E (aL (pf g 0 E (aO E aF E)))
  ·exact fun _ _=>dk E E (aL (pf g 1 E (aO E aF E)))
  ·exact fun _ D=>dk E E (aL (aH E E (aS bL (hR.ext D).hb E) (aO E aF E)))
  ·exact fun _ _=>aL (mv 1 E (aO E aF E))
  ·exact fun _ _=>dk E E (aL (pf g 0 E (aO E aF E)))
  ·exact fun _ _=>dk E E (aL (pf g 0 E (aO E aF E)))
  ·exact fun _ r=>dk E E (aL (aH E E (aS (fun _=>by kernel_rfl) (hR.ext r).hb E) (aO E aF E)))
  ·exact fun _ _=>dk E E (aL (pu (v:= a4 tn) E (aO E aF E)))
  ·exact fun _ _=>dk E E (dk E E (aL (aA E E E true (cJ (a:=i) (b:=tn) E E) (aO E aF E))))
  ·intro _ o
   have e:=(Ext.refl w).trans o
   refine dk E E (dk E E (dk E E (dk E E (dk E E (dk E E (dk E E (dk E E (dk E E (dk E E (aL (mv 1 E (bA (fF ?_)))))))))))))
   refine aJ (aW (aV [gx] E ⟨rfl,i3⟩ ?_))
   exact⟨_,rfl,(show Value.bool true= .bool (decide (tn≤i)) by rw [decide_eq_true (by omega)]),e⟩
 ·refine fG eR 10 [] [Is (a1 g 0),Is (a1 g 0),Is (a1 g 1),Is (a4 i),Is (a1 g 0),Is (a1 g 0),Is (a1 g 0),Is (a9 TA tn tc),Is (a4 tn),Is (ik)] [[],[0],[1],[2],[],[4],[5],[6],[7],[3,8]] [[],[0],[0,1],[0,1,2],[],[4],[4,5],[4,5,6],[4,5,6,7],[0,1,2,3,4,5,6,7,8],[0,1,2,3,4,5,6,7,8,9]] rfl
   (aP E E (aK E E ?_) (aP E E (aK E E ?_) (aP E E (aK E E ?_) (aP E E (aK E E ?_) (aP E E (aK E E ?_) (aP E E (aK E E ?_) (aP E E (aK E E ?_) (aP E E (aK E E ?_) (aP E E (aK E E ?_) (aP E E (aK E E ?_) fE)))))))))) ?_
  ·exact fun _ _=>aL (mv 1 E (aO E aF E))
  ·exact fun _ _=>dk E E (aL (pf g 0 E (aO E aF E)))
  ·exact fun _ _=>dk E E (aL (pf g 1 E (aO E aF E)))
  ·exact fun _ h=>dk E E (aL (aH E E (aS bL (hR.ext h).hb E) (aO E aF E)))
  ·exact fun _ _=>aL (mv 1 E (aO E aF E))
  ·exact fun _ _=>dk E E (aL (pf g 0 E (aO E aF E)))
  ·exact fun _ _=>dk E E (aL (pf g 0 E (aO E aF E)))
  ·exact fun _ f=>dk E E (aL (aH E E (aS (fun _=>by kernel_rfl) (hR.ext f).hb E) (aO E aF E)))
  ·exact fun _ _=>dk E E (aL (pu (v:= a4 tn) E (aO E aF E)))
  ·exact fun _ _=>dk E E (dk E E (aL (aA E E E false (cR (a:=i) (b:=tn) E E) (aO E aF E))))
  ·intro _ j
   have e:=(Ext.refl w).trans j
   refine dk E E (dk E E (dk E E (dk E E (dk E E (dk E E (dk E E (dk E E (dk E E (dk E E (aL (mv 1 E (bA (fF ?_)))))))))))))
   refine aJ (aW (aV [F0] E ⟨rfl,i3⟩ ?_))
   exact⟨_,rfl,(show Value.bool false= .bool (decide (tn≤i)) by rw [decide_eq_false (by omega)]),e⟩
theorem BO {TA:Option a8}{nv:aC}(hR:Rdr w g TA tn tc en ts i nv):aU aG 40 #[a1 g 0] w (Gv w (fun v _=>∃k:Int,v= a4 k)):=by
 refine bJ Tryz.func40 E (n:=28) E (bq E) (args:= [a1 g 0]) ?_
 have W:=hR.hb.lt
 have ab:=hR.le
 have X:=hR.lim
 have aa:=hR.len
 have Z:∀p,TA=some p→p.block<g:=hR.lt
 refine bH [(0,a1 g 0)] ⟨rfl,i3⟩ (sr (mv 1 E (a7 (aD (aD ?_)))))
 by_cases hd:i<tn
 ·refine fG eR 10 [] [Is (a1 g 0),Is (a1 g 0),Is (a1 g 1),Is (a4 i),Is (a1 g 0),Is (a1 g 0),Is (a1 g 0),Is (a9 TA tn tc),Is (a4 tn),Is (gx)] [[],[0],[1],[2],[],[4],[5],[6],[7],[3,8]] [[],[0],[0,1],[0,1,2],[],[4],[4,5],[4,5,6],[4,5,6,7],[0,1,2,3,4,5,6,7,8]] rfl
   (aP E E (aK E E ?_) (aP E E (aK E E ?_) (aP E E (aK E E ?_) (aP E E (aK E E ?_) (aP E E (aK E E ?_) (aP E E (aK E E ?_) (aP E E (aK E E ?_) (aP E E (aK E E ?_) (aP E E (aK E E ?_) (aP E E (aK E E ?_) fE)))))))))) ?_
  ·exact fun _ _=>aL (mv 1 E (aO E aF E))
  ·exact fun _ _=>dk E E (aL (pf g 0 E (aO E aF E)))
  ·exact fun _ _=>dk E E (aL (pf g 1 E (aO E aF E)))
  ·exact fun _ U=>dk E E (aL (aH E E (aS bL (hR.ext U).hb E) (aO E aF E)))
  ·exact fun _ _=>aL (mv 1 E (aO E aF E))
  ·exact fun _ _=>dk E E (aL (pf g 0 E (aO E aF E)))
  ·exact fun _ _=>dk E E (aL (pf g 0 E (aO E aF E)))
  ·exact fun _ O=>dk E E (aL (aH E E (aS (fun _=>by kernel_rfl) (hR.ext O).hb E) (aO E aF E)))
  ·exact fun _ _=>dk E E (aL (pu (v:= a4 tn) E (aO E aF E)))
  ·exact fun _ _=>dk E E (dk E E (aL (aA E E E true (d5 (a:=i) (b:=tn) E E) (aO E aF E))))
  ·intro M o
   have F:=(Ext.refl w).trans o
   refine dk E E (dk E E (dk E E (dk E E (dk E E (dk E E (dk E E (dk E E (dk E E (dk E E (aL (bA (fF (aJ ?_)))))))))))))
   refine b8 E (aD (bH [(0,a1 g 0)] ⟨rfl,i3⟩ ?_))
   obtain⟨q,Y,f⟩:∃v,v=M.drew∧Ext M v:=⟨_,rfl,(Ext.refl _).drew⟩
   have V:=F.trans f
   obtain⟨h,H,e,_,_,D⟩:=((hR.ext (o.t f))).at (j:=i) (by omega)
   refine vJ eR (w:=q) [a1 g 0,a1 g 0,a1 g 0,a9 TA tn tc,a1 g 0,a1 g 0,a1 g 1,a4 i,.pointer (some h),.pointer (some (h.add 2)),a4 e,a4 e] [q] [] [[],[0],[1],[2],[],[4],[5],[6],[3,7],[8],[9],[10]] [[],[0],[0,1],[0,1,2],[],[4],[4,5],[4,5,6],[0,1,2,3,4,5,6,7],[0,1,2,3,4,5,6,7,8],[0,1,2,3,4,5,6,7,8,9],[0,1,2,3,4,5,6,7,8,9,10]] [(0,0),(1,0),(2,0),(3,0),(4,0),(5,0),(6,0),(7,0),(8,0),(9,0),(10,0),(11,0)] E Y ?_ ?_
   ·refine dH _ E E E E E (jF E) (dH _ E E E E E (fX E) (dH _ E E E E E (fX E) (dH _ E E E E E (iY E (aS (fun _=>by kernel_rfl) (hR.ext (o.t f)).hb E)) (dH _ E E E E E (jF E) (dH _ E E E E E (fX E) (dH _ E E E E E (fX E) (dH _ E E E E E (iY E (aS bL (hR.ext (o.t f)).hb E)) (dH _ E E E E E (qX E E Tryz.underlying62 m3 i E h H) (dH _ E E E E E (fX E) (dH _ E E E E E (iY E (cO (fun _=>by kernel_rfl) D)) (dH _ E E E E E (yR E) ?_)))))))))))
    exact vD
   clear Y
   refine rO [(0,a1 g 0),(2,a4 e)] ⟨rfl,rfl,i3⟩ (aJ (aW (bO (aV [a4 e] E ⟨rfl,i3⟩ ?_))))
   exact⟨_,rfl,⟨_,rfl⟩,V⟩
 ·refine fG eR 10 [] [Is (a1 g 0),Is (a1 g 0),Is (a1 g 1),Is (a4 i),Is (a1 g 0),Is (a1 g 0),Is (a1 g 0),Is (a9 TA tn tc),Is (a4 tn),Is (ik)] [[],[0],[1],[2],[],[4],[5],[6],[7],[3,8]] [[],[0],[0,1],[0,1,2],[],[4],[4,5],[4,5,6],[4,5,6,7],[0,1,2,3,4,5,6,7,8]] rfl
   (aP E E (aK E E ?_) (aP E E (aK E E ?_) (aP E E (aK E E ?_) (aP E E (aK E E ?_) (aP E E (aK E E ?_) (aP E E (aK E E ?_) (aP E E (aK E E ?_) (aP E E (aK E E ?_) (aP E E (aK E E ?_) (aP E E (aK E E ?_) fE)))))))))) ?_
  ·exact fun _ _=>aL (mv 1 E (aO E aF E))
  ·exact fun _ _=>dk E E (aL (pf g 0 E (aO E aF E)))
  ·exact fun _ _=>dk E E (aL (pf g 1 E (aO E aF E)))
  ·exact fun _ L=>dk E E (aL (aH E E (aS bL (hR.ext L).hb E) (aO E aF E)))
  ·exact fun _ _=>aL (mv 1 E (aO E aF E))
  ·exact fun _ _=>dk E E (aL (pf g 0 E (aO E aF E)))
  ·exact fun _ _=>dk E E (aL (pf g 0 E (aO E aF E)))
  ·exact fun _ I=>dk E E (aL (aH E E (aS (fun _=>by kernel_rfl) (hR.ext I).hb E) (aO E aF E)))
  ·exact fun _ _=>dk E E (aL (pu (v:= a4 tn) E (aO E aF E)))
  ·exact fun _ _=>dk E E (dk E E (aL (aA E E E false (f8 (a:=i) (b:=tn) E E) (aO E aF E))))
  ·intro _ r
   have F:=(Ext.refl w).trans r
   refine dk E E (dk E E (dk E E (dk E E (dk E E (dk E E (dk E E (dk E E (dk E E (dk E E (aL (bA (fF (aJ ?_)))))))))))))
   refine aI E (aY (aJ (sr (mv 1 E (pf g 0 E (pf g 2 E (aH E E (aS bL (hR.ext r).hb E) (mv 1 E (a7 (aW (aV [a4 en] E ⟨rfl,i3⟩ ?_)))))))))))
   exact⟨_,rfl,⟨_,rfl⟩,F⟩
theorem gJ {TA:Option a8}{nv:aC}(hR:Rdr w g TA tn tc en ts i nv){kd:Nat}{b:Bool}(hres:i8 (ts[i+q]?) kd tx=b)(hq:q≤1:=by decide)(htx:∀c,c∈tx→c<256:=by decide):aU aG 42 #[a1 g 0,a4 q,a4 kd,.string (aB tx)] w (Gv w (Is (.bool b))):=by
 refine bJ Tryz.func42 E (n:=48) E (bq E) (args:= [a1 g 0,a4 q,a4 kd,.string (aB tx)]) ?_
 have ar:=hR.hb.lt
 have ay:=hR.le
 have au:=hR.lim
 have ax:=hR.len
 have aw:∀p,TA=some p→p.block<g:=hR.lt
 refine bH [(0,a1 g 0),(1,a4 q),(2,a4 kd),(3,.string (aB tx))] ⟨rfl,rfl,rfl,rfl,i3⟩ (sr (mv 1 E (a7 (aD (aD ?_)))))
 by_cases hd:i+q≥tn
 ·refine fG eR 12 [] [Is (a1 g 0),Is (a1 g 0),Is (a1 g 1),Is (a4 i),Is (a4 q),Is (a4 ((i+q:Nat):Int)),Is (a1 g 0),Is (a1 g 0),Is (a1 g 0),Is (a9 TA tn tc),Is (a4 tn),Is (gx)] [[],[0],[1],[2],[],[3,4],[],[6],[7],[8],[9],[5,10]] [[],[0],[0,1],[0,1,2],[],[0,1,2,3,4],[],[6],[6,7],[6,7,8],[6,7,8,9],[0,1,2,3,4,5,6,7,8,9,10]] rfl
   (aP E E (aK E E ?_) (aP E E (aK E E ?_) (aP E E (aK E E ?_) (aP E E (aK E E ?_) (aP E E (aK E E ?_) (aP E E (aK E E ?_) (aP E E (aK E E ?_) (aP E E (aK E E ?_) (aP E E (aK E E ?_) (aP E E (aK E E ?_) (aP E E (aK E E ?_) (aP E E (aK E E ?_) fE)))))))))))) ?_
  ·exact fun _ _=>aL (mv 1 E (aO E aF E))
  ·exact fun _ _=>dk E E (aL (pf g 0 E (aO E aF E)))
  ·exact fun _ _=>dk E E (aL (pf g 1 E (aO E aF E)))
  ·exact fun _ am=>dk E E (aL (aH E E (aS bL (hR.ext am).hb E) (aO E aF E)))
  ·exact fun _ _=>aL (mv 1 E (aO E aF E))
  ·exact fun _ _=>dk E E (dk E E (aL (bF E E E ((i+q:Nat):Int) (d6 (a:=i) (b:=q) E E) (aO E aF E))))
  ·exact fun _ _=>aL (mv 1 E (aO E aF E))
  ·exact fun _ _=>dk E E (aL (pf g 0 E (aO E aF E)))
  ·exact fun _ _=>dk E E (aL (pf g 0 E (aO E aF E)))
  ·exact fun _ aq=>dk E E (aL (aH E E (aS (fun _=>by kernel_rfl) (hR.ext aq).hb E) (aO E aF E)))
  ·exact fun _ _=>dk E E (aL (pu (v:= a4 tn) E (aO E aF E)))
  ·exact fun _ _=>dk E E (dk E E (aL (aA E E E true (cJ (a:=i+q) (b:=tn) E E) (aO E aF E))))
  ·intro _ ap
   have M:=(Ext.refl w).trans ap
   refine dk E E (dk E E (dk E E (dk E E (dk E E (dk E E (dk E E (dk E E (dk E E (dk E E (dk E E (dk E E (aL (bA ?_)))))))))))))
   refine fF (aJ (b8 E (sr (mv 1 E (a7 (aW (bO (aV [F0] E ⟨rfl,i3⟩ ?_))))))))
   exact⟨_,rfl,(show Value.bool false= .bool b by rw [←hres,show i8 (ts[i+q]?) kd tx=false by rw [kV (by omega)];rfl]),M⟩
 ·refine fG eR 12 [] [Is (a1 g 0),Is (a1 g 0),Is (a1 g 1),Is (a4 i),Is (a4 q),Is (a4 ((i+q:Nat):Int)),Is (a1 g 0),Is (a1 g 0),Is (a1 g 0),Is (a9 TA tn tc),Is (a4 tn),Is (ik)] [[],[0],[1],[2],[],[3,4],[],[6],[7],[8],[9],[5,10]] [[],[0],[0,1],[0,1,2],[],[0,1,2,3,4],[],[6],[6,7],[6,7,8],[6,7,8,9],[0,1,2,3,4,5,6,7,8,9,10]] rfl
   (aP E E (aK E E ?_) (aP E E (aK E E ?_) (aP E E (aK E E ?_) (aP E E (aK E E ?_) (aP E E (aK E E ?_) (aP E E (aK E E ?_) (aP E E (aK E E ?_) (aP E E (aK E E ?_) (aP E E (aK E E ?_) (aP E E (aK E E ?_) (aP E E (aK E E ?_) (aP E E (aK E E ?_) fE)))))))))))) ?_
  ·exact fun _ _=>aL (mv 1 E (aO E aF E))
  ·exact fun _ _=>dk E E (aL (pf g 0 E (aO E aF E)))
  ·exact fun _ _=>dk E E (aL (pf g 1 E (aO E aF E)))
  ·exact fun _ aa=>dk E E (aL (aH E E (aS bL (hR.ext aa).hb E) (aO E aF E)))
  ·exact fun _ _=>aL (mv 1 E (aO E aF E))
  ·exact fun _ _=>dk E E (dk E E (aL (bF E E E ((i+q:Nat):Int) (d6 (a:=i) (b:=q) E E) (aO E aF E))))
  ·exact fun _ _=>aL (mv 1 E (aO E aF E))
  ·exact fun _ _=>dk E E (aL (pf g 0 E (aO E aF E)))
  ·exact fun _ _=>dk E E (aL (pf g 0 E (aO E aF E)))
  ·exact fun _ ai=>dk E E (aL (aH E E (aS (fun _=>by kernel_rfl) (hR.ext ai).hb E) (aO E aF E)))
  ·exact fun _ _=>dk E E (aL (pu (v:= a4 tn) E (aO E aF E)))
  ·exact fun _ _=>dk E E (dk E E (aL (aA E E E false (cR (a:=i+q) (b:=tn) E E) (aO E aF E))))
  ·intro ab o
   have M:=(Ext.refl w).trans o
   refine dk E E (dk E E (dk E E (dk E E (dk E E (dk E E (dk E E (dk E E (dk E E (dk E E (dk E E (dk E E (aL (bA ?_)))))))))))))
   refine fF (aJ (aI E (aY (aJ (aD ?_)))))
   obtain⟨O,V,D,X,U,Y⟩:=((hR.ext o)).at (j:=i+q) (by omega)
   refine fG eR 13 [] [Is (a1 g 0),Is (a1 g 0),Is (a1 g 0),Is (a9 TA tn tc),Is (a1 g 0),Is (a1 g 0),Is (a1 g 1),Is (a4 i),Is (a4 q),Is (a4 ((i+q:Nat):Int)),Is (.pointer (some O)),Is (.agg #[a4 (((ts.getD (i+q) (0,[])).1:Nat):Int),.string (aB ((ts.getD (i+q) (0,[])).2)),a4 D]),PR ab.heap.size 97 [I0,.string (aB ([])),I0]] [[],[0],[1],[2],[],[4],[5],[6],[],[7,8],[3,9],[10],[]] [[],[0],[0,1],[0,1,2],[],[4],[4,5],[4,5,6],[],[4,5,6,7,8],[0,1,2,3,4,5,6,7,8,9],[0,1,2,3,4,5,6,7,8,9,10],[],[0,1,2,3,4,5,6,7,8,9,10,11,12]] rfl
    (aP E E (aK E E ?_) (aP E E (aK E E ?_) (aP E E (aK E E ?_) (aP E E (aK E E ?_) (aP E E (aK E E ?_) (aP E E (aK E E ?_) (aP E E (aK E E ?_) (aP E E (aK E E ?_) (aP E E (aK E E ?_) (aP E E (aK E E ?_) (aP E E (aK E E ?_) (aP E E (aK E E ?_) (aP E E (aK E E ?_) fE))))))))))))) ?_
   ·exact fun _ _=>aL (mv 1 E (aO E aF E))
   ·exact fun _ _=>dk E E (aL (pf g 0 E (aO E aF E)))
   ·exact fun _ _=>dk E E (aL (pf g 0 E (aO E aF E)))
   ·exact fun _ aj=>dk E E (aL (aH E E (aS (fun _=>by kernel_rfl) (hR.ext (o.t aj)).hb E) (aO E aF E)))
   ·exact fun _ _=>aL (mv 1 E (aO E aF E))
   ·exact fun _ _=>dk E E (aL (pf g 0 E (aO E aF E)))
   ·exact fun _ _=>dk E E (aL (pf g 1 E (aO E aF E)))
   ·exact fun _ ag=>dk E E (aL (aH E E (aS bL (hR.ext (o.t ag)).hb E) (aO E aF E)))
   ·exact fun _ _=>aL (mv 1 E (aO E aF E))
   ·exact fun _ _=>dk E E (dk E E (aL (bF E E E ((i+q:Nat):Int) (d6 (a:=i) (b:=q) E E) (aO E aF E))))
   ·exact fun _ _=>dk E E (dk E E (aL (cG E E E Tryz.underlying62 m3 (i+q) E O V (aO E aF E))))
   ·exact fun _ F=>dk E E (aL (aH E E (j1 f9 (F.cell X) (F.cell U) (F.cell Y)) (aO E aF E)))
   ·intro _ ae
    refine aL (eK E (z:= .agg #[I0,.string (aB ([])),I0]) (vs:= [I0,.string (aB ([])),I0]) (fun _=>by kernel_rfl) E fun _ _ nb=>?_)
    exact aO E nb.ext ⟨_,rfl,by rw [←nb.at_];exact ae.size,nb.bk⟩
   ·intro _ Z
    have ao:=M.trans Z
    refine dk E E (dk E E (dk E E (dk E E (dk E E (dk E E (dk E E (dk E E (dk E E (dk E E (dk E E (dk E E (eE E E fun _ _ ah _ ak=>?_))))))))))))
    obtain⟨f,rfl,h,r⟩:=ah
    have r:=r.ext ak
    have av:g<f:=cU (hR.ext o).hb.lt h
    have h:w.heap.size≤f:=aN M.size h
    refine aL (so f9 r [a4 (((ts.getD (i+q) (0,[])).1:Nat):Int),.string (aB ((ts.getD (i+q) (0,[])).2)),a4 D] ao h E E E E fun _ e _ H=>(bA (fF (aJ (aD ?_)))))
    by_cases L:(ts.getD (i+q) (0,[])).1=kd
    ·by_cases W:kd≠3
     ·refine aE (pf f 0 E (aH E E (aS bL e E) (mv 1 E (aA E E E true (dB (a:=(ts.getD (i+q) (0,[])).1) (b:=kd) E E) (mv 2 E (aA E E E true (iL (a:=kd) (b:=3) E E) (mv 5 E (pu (v:= gx) E (pu (v:= gx) E (mv 1 E (a7 (aW (aV [gx] E ⟨rfl,i3⟩ ?_)))))))))))))
      exact⟨_,rfl,(show Value.bool true= .bool b by rw [←hres,show i8 (ts[i+q]?) kd tx=true by rw [qO];show (decide _&&(decide _||decide _))=_;rw [decide_eq_true L,decide_eq_true W];rfl]),H⟩
     ·by_cases I:(ts.getD (i+q) (0,[])).2=tx
      ·refine aE (pf f 0 E (aH E E (aS bL e E) (mv 1 E (aA E E E true (dB (a:=(ts.getD (i+q) (0,[])).1) (b:=kd) E E) (mv 2 E (aA E E E false (lJ (a:=kd) (b:=3) E E) (mv 1 E (pf f 1 E (aH E E (aS (fun _=>by kernel_rfl) e E) (mv 1 E (iD (a:=(ts.getD (i+q) (0,[])).2) (b:=tx) E E E (hR.low_at (by omega)) true (oH (I)) (pu (v:= gx) E (pu (v:= gx) E ?_)) (hb:=htx))))))))))))
       refine mv 1 E (a7 (aW (aV [gx] E ⟨rfl,i3⟩ ?_)))
       exact⟨_,rfl,(show Value.bool true= .bool b by rw [←hres,show i8 (ts[i+q]?) kd tx=true by rw [qO];show (decide _&&(decide _||decide _))=_;rw [decide_eq_true L,decide_eq_false W,decide_eq_true I];rfl]),H⟩
      ·refine aE (pf f 0 E (aH E E (aS bL e E) (mv 1 E (aA E E E true (dB (a:=(ts.getD (i+q) (0,[])).1) (b:=kd) E E) (mv 2 E (aA E E E false (lJ (a:=kd) (b:=3) E E) (mv 1 E (pf f 1 E (aH E E (aS (fun _=>by kernel_rfl) e E) (mv 1 E (iD (a:=(ts.getD (i+q) (0,[])).2) (b:=tx) E E E (hR.low_at (by omega)) false (y3 (I)) (pu (v:= ik) E (pu (v:= ik) E ?_)) (hb:=htx))))))))))))
       refine mv 1 E (a7 (aW (aV [F0] E ⟨rfl,i3⟩ ?_)))
       exact⟨_,rfl,(show Value.bool false= .bool b by rw [←hres,show i8 (ts[i+q]?) kd tx=false by rw [qO];show (decide _&&(decide _||decide _))=_;rw [decide_eq_true L,decide_eq_false W,decide_eq_false I];rfl]),H⟩
    ·refine aE (pf f 0 E (aH E E (aS bL e E) (mv 1 E (aA E E E false (bV (a:=(ts.getD (i+q) (0,[])).1) (b:=kd) E E) (mv 9 E (pu (v:= ik) E (mv 1 E (a7 (aW (aV [F0] E ⟨rfl,i3⟩ ?_))))))))))
     exact⟨_,rfl,(show Value.bool false= .bool b by rw [←hres,show i8 (ts[i+q]?) kd tx=false by rw [qO];show (decide _&&(decide _||decide _))=_;rw [decide_eq_false L];rfl]),H⟩
theorem lD {TA:Option a8}{nv:aC}(hR:Rdr w g TA tn tc en ts i nv){b:Bool}(hres:i8 (ts[i]?) 3 tx=b)(htx:∀c,c∈tx→c<256:=by decide):aU aG 73 #[a1 g 0,.string (aB tx)] w (Gv w (Is (.bool b))):=by
 refine bJ Tryz.func73 E (n:=8) E (bq E) (args:= [a1 g 0,.string (aB tx)]) ?_
 have f:=hR.hb.lt
 have q:=hR.le
 have h:=hR.lim
 have r:=hR.len
 have j:∀p,TA=some p→p.block<g:=hR.lt
 refine bH [(0,a1 g 0),(1,.string (aB tx))] ⟨rfl,rfl,i3⟩ (sr (mv 1 E (a7 (sr (mv 2 E (cl (vs:= [a1 g 0,I0,a4 3,.string (aB tx)]) aF (gJ hR hres (htx:=htx)) E (by kernel_rfl) fun _ _ o _ e=>?_))))))
 obtain rfl:=o
 refine mv 1 E (a7 (aW (aV [.bool b] E ⟨rfl,i3⟩ ?_)))
 exact⟨_,rfl,rfl,e⟩
theorem rM {TA:Option a8}{nv:aC}(hR:Rdr w g TA tn tc en ts i nv)(htx:∀c,c∈tx→c<256)(hi:i<tn)(hres:i8 (ts[i]?) 3 tx=true):aU aG 70 #[a1 g 0,.string (aB tx)] w (RG w g TA tn tc en ts (i+1) nv (Is (gx))):=by
 refine bJ Tryz.func70 E (n:=16) E (bq E) (args:= [a1 g 0,.string (aB tx)]) ?_
 have q:=hR.hb.lt
 have O:=hR.le
 have F:=hR.lim
 have M:=hR.len
 have H:∀p,TA=some p→p.block<g:=hR.lt
 refine bH [(0,a1 g 0),(1,.string (aB tx))] ⟨rfl,rfl,i3⟩ (sr (mv 1 E (a7 (aD (sr (mv 2 E (bC E E (vs:= [a1 g 0,.string (aB tx)]) (by kernel_rfl) (by decide) (lD hR hres (htx:=htx)) ?_)))))))
 rintro _ U ⟨_,rfl,I,r⟩
 refine bB ?_
 have h:Upd g w U:=(Upd.refl g w).then_ext r
 obtain rfl:=I
 refine pu (v:= ik) E (a7 (aI E (aY (aJ (sr (mv 1 E (pf g 0 E (pf g 1 E (aH E E (aS bL (hR.ext r).hb E) (bF E E E ((i+1:Nat):Int) (d6 (a:=i) (b:=1) E E) (pf g 0 E (pf g 1 E ?_))))))))))))
 have f:=(hR.ext r)
 refine fO E E E m4 E f.hb (bq E) E [a9 TA tn tc,a4 ((i+1:Nat):Int),a4 en,I0,nv] E fun L o D _=>?_
 have e:=f.set D o (by omega)
 have j:Upd g w L:=h.trans D
 refine a7 (sr (mv 1 E (a7 (aW (aV [gx] E ⟨rfl,i3⟩ ?_)))))
 exact⟨_,rfl,rfl,j,e⟩
theorem jM {TA:Option a8}{nv:aC}(hR:Rdr w g TA tn tc en ts i nv)(hres:i8 (ts[i]?) 3 tx=false)(htx:∀c,c∈tx→c<256:=by decide):aU aG 70 #[a1 g 0,.string (aB tx)] w (Gv w (Is (ik))):=by
 refine bJ Tryz.func70 E (n:=16) E (bq E) (args:= [a1 g 0,.string (aB tx)]) ?_
 have f:=hR.hb.lt
 have q:=hR.le
 have h:=hR.lim
 have r:=hR.len
 have j:∀p,TA=some p→p.block<g:=hR.lt
 refine bH [(0,a1 g 0),(1,.string (aB tx))] ⟨rfl,rfl,i3⟩ (sr (mv 1 E (a7 (aD (sr (mv 2 E (cl (vs:= [a1 g 0,.string (aB tx)]) aF (lD hR hres (htx:=htx)) E (by kernel_rfl) fun _ _ o _ e=>?_)))))))
 obtain rfl:=o
 refine pu (v:= gx) E (a7 (b8 E (sr (mv 1 E (a7 (aW (bO (aV [F0] E ⟨rfl,i3⟩ ?_))))))))
 exact⟨_,rfl,rfl,e⟩
theorem pB {TA:Option a8}{nv:aC}(hR:Rdr w g TA tn tc en ts i nv)(hres:i8 (ts[i]?) 3 tx=true)(htx:∀c,c∈tx→c<256:=by decide)(hi:i<tn:=by omega):aU aG 41 #[a1 g 0,.string (aB tx)] w (RG w g TA tn tc en ts (i+1) nv (Is (.tuple #[]))):=by
 refine bJ Tryz.func41 E (n:=10) E (bq E) (args:= [a1 g 0,.string (aB tx)]) ?_
 have f:=hR.hb.lt
 have r:=hR.le
 have j:=hR.lim
 have H:=hR.len
 have o:∀p,TA=some p→p.block<g:=hR.lt
 refine bH [(0,a1 g 0),(1,.string (aB tx))] ⟨rfl,rfl,i3⟩ (sr (mv 2 E ?_))
 have F:=hR.hb
 refine bC E E (vs:= [a1 g 0,.string (aB tx)]) (by kernel_rfl) (by decide) (rM hR htx hi hres) ?_
 rintro _ D ⟨_,rfl,q,I,h⟩
 refine bB ?_
 have e:Upd g w D:=(Upd.refl g w).trans I
 obtain rfl:=q
 refine pu (v:= ik) E (a7 (aI E (aY (jN [] E i3 ?_))))
 exact⟨_,rfl,rfl,e,h⟩
theorem nN {TA:Option a8}{nv:aC}(hR:Rdr w g TA tn tc en ts i nv)(ht:ts[i]?=some (1,ds))(hd:ds≠ []∧∀c,c∈ds→aM c=3)(hlen:ds.length≤17179869184)(hi:i<tn:=by omega):aU aG 44 #[a1 g 0] w (RG w g TA tn tc en ts (i+1) nv (WR w.heap.size (cC 10 (ds.map dv)))):=by
 refine bJ Tryz.func44 E (n:=33) E (bq E) (args:= [a1 g 0]) ?_
 have dr:=hR.hb.lt
 have ec:=hR.le
 have du:=hR.lim
 have ea:=hR.len
 have dw:∀p,TA=some p→p.block<g:=hR.lt
 refine bH [(0,a1 g 0)] ⟨rfl,i3⟩ (sr (mv 1 E (a7 (aD (sr (mv 1 E (bC E E (vs:= [a1 g 0,I0,a4 1,.string (aB ([]))]) (by kernel_rfl) (by decide) (gJ hR (b:=true) (by rw [dF,ht];rfl)) ?_)))))))
 rintro _ v1 ⟨_,rfl,r3,V⟩
 refine bB ?_
 have h:Upd g w v1:=(Upd.refl g w).then_ext V
 obtain rfl:=r3
 refine pu (v:= ik) E (a7 (aI E (aY (aJ (aD ?_)))))
 have cd:(ts.getD i (0,[])).2=ds:=by rw [getD_some ht]
 obtain⟨p4,ch,_,_,cb,_⟩:=((hR.ext V)).at (j:=i) (by omega)
 refine fG eR 15 [13,14] [Is (a1 g 0),Is (a1 g 0),Is (a1 g 0),Is (a9 TA tn tc),Is (a1 g 0),Is (a1 g 0),Is (a1 g 1),Is (a4 i),Is (.pointer (some p4)),Is (.pointer (some (p4.add 1))),Is (.string (aB ((ts.getD i (0,[])).2))),T2 (WR w.heap.size (cC 10 (ds.map dv))) (Is (a4 0)),T2 (WR w.heap.size (cC 10 (ds.map dv))) (Is (a4 0)),WR w.heap.size (cC 10 (ds.map dv)),Is (a4 0)] [[],[0],[1],[2],[],[4],[5],[6],[3,7],[8],[9],[10],[11],[12],[12]] [[],[0],[0,1],[0,1,2],[],[4],[4,5],[4,5,6],[0,1,2,3,4,5,6,7],[0,1,2,3,4,5,6,7,8],[0,1,2,3,4,5,6,7,8,9],[0,1,2,3,4,5,6,7,8,9,10],[0,1,2,3,4,5,6,7,8,9,10,11],[0,1,2,3,4,5,6,7,8,9,10,11,12],[0,1,2,3,4,5,6,7,8,9,10,11,12],[0,1,2,3,4,5,6,7,8,9,10,11,12,13],[0,1,2,3,4,5,6,7,8,9,10,11,12,13,14,15]] rfl
  (aP E E (aK E E ?_) (aP E E (aK E E ?_) (aP E E (aK E E ?_) (aP E E (aK E E ?_) (aP E E (aK E E ?_) (aP E E (aK E E ?_) (aP E E (aK E E ?_) (aP E E (aK E E ?_) (aP E E (aK E E ?_) (aP E E (aK E E ?_) (aP E E (aK E E ?_) (aP E E (aK E E ?_) (aP E E (aK E E ?_) (zE E E (C3 E ?_) (zE E E (C3 E ?_) fE))))))))))))))) ?_
 ·intro bv cz
  have f:Upd g w bv:=h.then_ext cz
  refine aL (mv 1 E ?_)
  exact aO E aF rfl
 ·intro da cf
  have f:Upd g w da:=h.then_ext cf
  refine dk E E (aL (pf g 0 E ?_))
  exact aO E aF rfl
 ·intro dl cm
  have f:Upd g w dl:=h.then_ext cm
  refine dk E E (aL (pf g 0 E ?_))
  exact aO E aF rfl
 ·intro cu ai
  have f:Upd g w cu:=h.then_ext ai
  refine dk E E (aL (aH E E (aS (fun _=>by kernel_rfl) (hR.ext (V.t ai)).hb E) ?_))
  exact aO E aF rfl
 ·intro dm ce
  have f:Upd g w dm:=h.then_ext ce
  refine aL (mv 1 E ?_)
  exact aO E aF rfl
 ·intro cj df
  have f:Upd g w cj:=h.then_ext df
  refine dk E E (aL (pf g 0 E ?_))
  exact aO E aF rfl
 ·intro de cr
  have f:Upd g w de:=h.then_ext cr
  refine dk E E (aL (pf g 1 E ?_))
  exact aO E aF rfl
 ·intro ck bm
  have f:Upd g w ck:=h.then_ext bm
  refine dk E E (aL (aH E E (aS bL (hR.ext (V.t bm)).hb E) ?_))
  exact aO E aF rfl
 ·intro cv bz
  have f:Upd g w cv:=h.then_ext bz
  refine dk E E (dk E E (aL (cG E E E Tryz.underlying62 m3 i E p4 ch ?_)))
  exact aO E aF rfl
 ·intro ci dq
  have f:Upd g w ci:=h.then_ext dq
  refine dk E E (aL (pu (v:= .pointer (some (p4.add 1))) E ?_))
  exact aO E aF rfl
 ·intro dt ao
  have f:Upd g w dt:=h.then_ext ao
  refine dk E E (aL (aH E E (cO (fun _=>by kernel_rfl) (ao.cell cb)) ?_))
  exact aO E aF rfl
 ·intro bi cg
  have f:Upd g w bi:=h.then_ext cg
  refine dk E E (aL (bC E E (vs:= [.string (aB ((ts.getD i (0,[])).2))]) (by kernel_rfl) (by decide) (by rw [cd];exact (GL (w:=bi) (bs:=ds) (fun c hc=>by have:=jJ.1 (hd.2 c hc);omega) hlen).mono fun e _ h9=>Gv.imp (T2.imp (WR.imp f.size) Is.imp) _ _ (h9.1 _ (KH hd))) ?_))
  rintro _ cx ⟨_,rfl,bu,az⟩
  refine bB ?_
  have Z:Upd g w cx:=f.then_ext az
  obtain⟨_,_,rfl,⟨_,_,_,rfl,dg,co⟩,rfl⟩:=bu
  exact aO E az ⟨_,_,rfl,⟨_,_,_,rfl,dg,co⟩,rfl⟩
 ·intro dd bw
  have f:Upd g w dd:=h.then_ext bw
  refine eE E E fun _ _ dh _ ap=>?_
  obtain⟨_,_,rfl,⟨_,_,_,rfl,aa,q⟩,rfl⟩:=dh
  have q:=q.ext ap
  refine aL (mv 1 E ?_)
  exact aO E aF ⟨_,_,rfl,⟨_,_,_,rfl,aa,q⟩,rfl⟩
 ·intro ae aq
  have f:Upd g w ae:=h.then_ext aq
  refine eE E E fun _ _ bf _ ag=>?_
  obtain⟨_,_,rfl,⟨ab,Y,bh,rfl,W,H⟩,rfl⟩:=bf
  have H:=H.ext ag
  refine aL ?_
  exact⟨a9 ab Y bh,rfl,rfl,fun _=>by kernel_rfl,⟨_,_,_,rfl,W,H⟩⟩
 ·intro bo bg
  have f:Upd g w bo:=h.then_ext bg
  refine eE E E fun _ _ bd _ aw=>?_
  obtain⟨_,_,rfl,⟨_,_,_,rfl,_,L⟩,rfl⟩:=bd
  have L:=L.ext aw
  refine aL ?_
  exact⟨a4 0,rfl,rfl,fun _=>by kernel_rfl,rfl⟩
 ·intro au D
  have f:Upd g w au:=h.then_ext D
  refine dk E E (dk E E (dk E E (dk E E (dk E E (dk E E (dk E E (dk E E (dk E E (dk E E (dk E E (eE E E fun _ _ ay _ av=>?_)))))))))))
  obtain⟨_,_,rfl,⟨_,_,_,rfl,_,I⟩,rfl⟩:=ay
  have I:=I.ext av
  refine eE E E fun _ _ aj _ ax=>?_
  obtain⟨_,_,rfl,⟨_,_,_,rfl,_,M⟩,rfl⟩:=aj
  have M:=M.ext ax
  refine eE E E fun _ _ ba _ bj=>?_
  obtain⟨ak,ah,am,rfl,ar,r⟩:=ba
  have r:=r.ext bj
  refine dk E E (aL (mv 2 E (bA (fF (aJ (sr (mv 1 E (pf g 0 E (pf g 1 E (aH E E (aS bL (hR.ext (V.t D)).hb E) (bF E E E ((i+1:Nat):Int) (d6 (a:=i) (b:=1) E E) (pf g 0 E (pf g 1 E ?_)))))))))))))
  have o:=(hR.ext (V.t D))
  refine fO E E E m4 E o.hb (bq E) E [a9 TA tn tc,a4 ((i+1:Nat):Int),a4 en,I0,nv] E fun X O F _=>?_
  have U:=o.set F O (by omega)
  have Z:Upd g w X:=f.trans F
  refine a7 (sr (mv 2 E (a7 (aW (aV [a9 ak ah am] E ⟨rfl,i3⟩ ?_)))))
  exact⟨_,rfl,⟨_,_,_,rfl,ar,(r.updT o.hb (by decide) F)⟩,Z,U⟩
theorem L8 {TA:Option a8}{nv:aC}(hR:Rdr w g TA tn tc en ts i nv)(hi:i<tn)(ht:ts[i]?=some (2,tx)):aU aG 50 #[a1 g 0] w (RG w g TA tn tc en ts (i+1) nv (Is (.string (aB tx)))):=by
 refine bJ Tryz.func50 E (n:=28) E (bq E) (args:= [a1 g 0]) ?_
 have U:=hR.hb.lt
 have ab:=hR.le
 have W:=hR.lim
 have aa:=hR.len
 have Y:∀p,TA=some p→p.block<g:=hR.lt
 refine bH [(0,a1 g 0)] ⟨rfl,i3⟩ (sr (mv 1 E (a7 (aD (sr (mv 1 E (bC E E (vs:= [a1 g 0,I0,a4 2,.string (aB ([]))]) (by kernel_rfl) (by decide) (gJ hR (b:=true) (by rw [dF,ht];rfl)) ?_)))))))
 rintro _ O ⟨_,rfl,Z,h⟩
 refine bB ?_
 have D:Upd g w O:=(Upd.refl g w).then_ext h
 obtain rfl:=Z
 refine pu (v:= ik) E (a7 (aI E (aY (aJ (aD (bH [(0,a1 g 0),(2,.string (aB ([])))] ⟨rfl,rfl,i3⟩ ?_))))))
 obtain⟨F,X,f⟩:∃v,v=O.drew∧Ext O v:=⟨_,rfl,(Ext.refl _).drew⟩
 have L:Upd g w F:=D.then_ext f
 obtain⟨r,I,_,_,V,_⟩:=((hR.ext (h.t f))).at (j:=i) (by omega)
 refine vJ eR (w:=F) [a1 g 0,a1 g 0,a1 g 0,a9 TA tn tc,a1 g 0,a1 g 0,a1 g 1,a4 i,.pointer (some r),.pointer (some (r.add 1)),.string (aB ((ts.getD i (0,[])).2)),.string (aB ((ts.getD i (0,[])).2))] [F] [] [[],[0],[1],[2],[],[4],[5],[6],[3,7],[8],[9],[10]] [[],[0],[0,1],[0,1,2],[],[4],[4,5],[4,5,6],[0,1,2,3,4,5,6,7],[0,1,2,3,4,5,6,7,8],[0,1,2,3,4,5,6,7,8,9],[0,1,2,3,4,5,6,7,8,9,10]] [(0,0),(1,0),(2,0),(3,0),(4,0),(5,0),(6,0),(7,0),(8,0),(9,0),(10,0),(11,0)] E X ?_ ?_
 ·refine dH _ E E E E E (jF E) (dH _ E E E E E (fX E) (dH _ E E E E E (fX E) (dH _ E E E E E (iY E (aS (fun _=>by kernel_rfl) (hR.ext (h.t f)).hb E)) (dH _ E E E E E (jF E) (dH _ E E E E E (fX E) (dH _ E E E E E (fX E) (dH _ E E E E E (iY E (aS bL (hR.ext (h.t f)).hb E)) (dH _ E E E E E (qX E E Tryz.underlying62 m3 i E r I) (dH _ E E E E E (fX E) (dH _ E E E E E (iY E (cO (fun _=>by kernel_rfl) V)) (dH _ E E E E E (yR E) ?_)))))))))))
  exact vD
 clear X
 refine rO [(0,a1 g 0),(2,.string (aB ([]))),(3,.string (aB ((ts.getD i (0,[])).2)))] ⟨rfl,rfl,rfl,i3⟩ (aJ (sr (mv 1 E (pf g 0 E (pf g 1 E (aH E E (aS bL (hR.ext (h.t f)).hb E) (bF E E E ((i+1:Nat):Int) (d6 (a:=i) (b:=1) E E) (pf g 0 E (pf g 1 E ?_)))))))))
 have e:=(hR.ext (h.t f))
 refine fO E E E m4 E e.hb (bq E) E [a9 TA tn tc,a4 ((i+1:Nat):Int),a4 en,I0,nv] E fun v7 M q _=>?_
 have o:=e.set q M (by omega)
 have H:Upd g w v7:=L.trans q
 refine a7 (sr (mv 2 E (a7 (aW (aV [.string (aB ((ts.getD i (0,[])).2))] E ⟨rfl,i3⟩ ?_)))))
 exact⟨_,rfl,(show Value.string (aB (ts.getD i (0,[])).2)=_ by rw [getD_some ht]),H,o⟩
theorem BL (ho:Own w b 50 1 A n c ((wd m).map bG))(hn:n=(wd m).length)(hm:m≤64):aU aG 43 #[a9 A n c] w (Gv w (Is (a4 m))):=by
 have H:=AL (m:=m) (by omega)
 refine bJ Tryz.func43 E (n:=14) E (bq E) (args:= [a9 A n c]) (bH [(0,a9 A n c)] ⟨rfl,i3⟩ (sr (mv 1 E (a7 (aD (sr (mv 1 E (dN E E (k:=1) (e:=50) [a5 64] (fun _=>by kernel_rfl) fun F _ h=>?_))))))))
 have I:=O1.mk_ (x:=64) (b:=w.heap.size) h (Ext.refl w).size
 have D:=h.ext
 have o:=(Ext.refl w).trans D
 have O:=oT I (show 64≤18446744073709551615 by decide) (show 64≠0 by decide)
 have U:=oY (show 64≤18446744073709551615 by decide) (show 64≠0 by decide)
 refine cl (vs:= [a9 A n c,a9 (some ⟨F,0,none⟩) 1 1]) o (oN (ho.ext D).wi O.wi (hl':=(by decide))) E (by kernel_rfl) fun _ _ r _ f=>?_
 obtain rfl:=r
 refine aA E E E false (O4 hm) (a7 (aI E (aY (aJ (aD (aD ?_))))))
 by_cases M:n=0
 ·refine aE (mv 1 E (pu (v:= a4 n) E (aA E E E true (dB (a:=n) (b:=0) E E) (a7 (b8 E (sr (mv 1 E (a7 (aW (bO (aV [I0] E ⟨rfl,i3⟩ ?_)))))))))))
  exact⟨_,rfl,(show bP .i64 (0:Int)= a4 m from by have:=kE.1 (show (wd m).length=0 by omega);rw [this];rfl),f⟩
 ·refine aE (mv 1 E (pu (v:= a4 n) E (aA E E E false (bV (a:=n) (b:=0) E E) (a7 (aI E (aY (aJ (aD ?_))))))))
  have p:n=1:=by have:=AL (m:=m) (by omega);omega
  obtain⟨L,q,j⟩:=G2 ho hn p
  refine aE (mv 1 E (cG E E E lW mX 0 E L q (aH E E (cO nS (f.cell j)) (eH E E (v:= a4 (IntKind.i64.wrap ((m:Nat):Int))) (v':= a4 m) (lF (by first | omega | exact hle64)) (mv 1 E (a7 (aW (aV [a4 m] E ⟨rfl,i3⟩ ?_))))))))
  exact⟨_,rfl,(show bP .i64 (((m:Nat):Int):Int)= a4 m from E),f⟩
theorem l4:Tryz.prog.underlying 38=some (.slice 3):=Tryz.underlying38
theorem gU (w:a6):(sizeOf 3).run aG w= .ok 1 w:=by kernel_rfl
theorem rI:(Tryz.prog.info? 3).map (fun i=>(i.zero,i.size,i.bytes))=some (some (a4 0),1,8):=by kernel_rfl
theorem IE {t':aQ}{s s':Nat}{n' cap':Nat}(h:Own w b t s A n cap vs)(k:Own w b' t' s' B n' cap' us)(hne:t≠t'):∀p q,A=some p→B=some q→p.block≠q.block:=fun p q f j e=>by
 rcases h with⟨h,_⟩ | ⟨g,cs,r,_,o,_⟩
 ·rw [h] at f;cases f
 ·rcases k with⟨k,_⟩ | ⟨g',cs',ha',_,hk',_⟩
  ·rw [k] at j;cases j
  ·rw [r] at f;rw [ha'] at j
   cases f;cases j
   simp only at e
   subst e
   unfold Bk at o hk'
   rw [o] at hk'
   injection hk' with h1
   injection h1 with _ h2
   exact hne h2
theorem Lz.updR {m:Option a6}{lb:Nat}{lb' s:Nat}(h:Lz m K b w lb A n cap zs)(ho:Own w lb' T s B k c us)(x:UpdO B w w')(hT:50≠T)(hT2:T≠46):Lz m K b w' lb A n cap zs:=by
 obtain⟨es,h1,h2,f,e⟩:=h
 exact⟨es,h1.updO x (IE ho h1 hT2),h2,f,fun i hi=>⟨(e i hi).1,(e i hi).2.updOT ho x hT⟩⟩
theorem u3 {tx:Nat→List Nat}(h:e<0):eW tx (e::es)=(3,[45])::(1,tx e.natAbs)::eW tx es:=by
 show jO tx e++eW tx es=_
 unfold jO;rw [if_pos h];rfl
theorem tZ {tx:Nat→List Nat}(h:¬e<0):eW tx (e::es)=(1,tx e.natAbs)::eW tx es:=by
 show jO tx e++eW tx es=_
 unfold jO;rw [if_neg h];rfl
theorem xH (h:m≠0):0<(wd m).length:=Nat.pos_of_ne_zero fun e=>h (kE.1 e)
theorem yQ {α:Type}(k:Nat)(x:α):cB (k+1) x=cB k x++ [x]:=List.replicate_succ'
theorem F1 (h:ln e≤1048576):(aT 10 e.natAbs).length≤17179869184:=by have:=oG (b:=10) (show (wd e.natAbs).length≤1048576 from h);omega
theorem nD (h:Own w b 3 1 A n c (cB n (a4 C)))(hi:i<n:=by omega):∃p,A.map (·.add (i*1))=some p∧w.cell? p=some (a4 C):=by
 obtain⟨a,e,f⟩:=h.rv.get i (by omega)
 refine⟨a.add i,by rw [e,eI];rfl,?_⟩
 rw [f,bE,List.getElem?_replicate,if_pos hi];rfl
theorem BN {TA:Option a8}{nv:aC}(hR:Rdr w g TA tn tc en ts i nv)(hts:ts.drop i=eW (aT 10) r0++(gT (aT 10) l0++rst))(hC:1≤C)(hr0:r0.length=C)(hl0:∀x,x∈l0→x.length=C)(hRl:1+l0.length=R)(hzs:r0++l0.flatten=zs)(hK:∀z,z∈zs→ln z≤1048576)(hzn:zs.length≤4096)(hR64:R≤64):aU aG 45 #[a1 g 0] w (fun e w'=>∃AA an ac LA lc q,e= .returned (.tuple #[a9 AA an ac,a9 LA R lc])∧Lz none 1048576 w.heap.size w' w.heap.size AA an ac zs∧Own w' w.heap.size 3 1 LA R lc (cB R (a4 C))∧Upd g w w'∧Rdr w' g TA tn tc en ts q nv∧ts.drop q=rst):=by
 refine bJ Tryz.func45 E (n:=44) E (bq E) (args:= [a1 g 0]) ?_
 have lm:=hR.hb.lt
 have nx:=hR.le
 have nl:=hR.lim
 have nz:=hR.len
 have aa:∀p,TA=some p→p.block<g:=hR.lt
 refine bH [(0,a1 g 0)] ⟨rfl,i3⟩ (sr (mv 2 E (a7 (bI ?_))))
 refine dJ (T:=a6×List Int×List Int×List (List Int)×Nat×Nat×Option a8×Nat×Nat×Option a8×Nat) (fun⟨wr,zd,r,l,k,q,AA,an,ac,LA,lc⟩=> [(0,a1 g 0),(2,a9 AA an ac),(3,a9 LA k lc)]) (fun⟨wr,zd,r,l,k,q,AA,an,ac,LA,lc⟩=>wr) (fun⟨wr,zd,r,l,k,q,AA,an,ac,LA,lc⟩=>(Upd g w wr)∧(Rdr wr g TA tn tc en ts q nv)∧(Lz none 1048576 w.heap.size wr w.heap.size AA an ac (zd))∧(Own wr w.heap.size 3 1 LA k lc (cB k (a4 C)))∧(ts.drop q=eW (aT 10) r++(gT (aT 10) l++rst))∧(zd++(r++l.flatten)=zs)∧(r.length=C)∧(∀x,x∈l→x.length=C)∧(k+1+l.length=R)) (fun⟨wr,zd,r,l,k,q,AA,an,ac,LA,lc⟩=>l.length)
  (⟨w,[],r0,l0,0,i,none,0,0,none,0⟩:a6×List Int×List Int×List (List Int)×Nat×Nat×Option a8×Nat×Nat×Option a8×Nat) ⟨(Upd.refl g w),hR,(Lz.nil _ _ _ _ _),(Own.nil _ _ _ _),hts,(by rw [List.nil_append];exact hzs),hr0,hl0,(by omega)⟩ E ⟨rfl,rfl,rfl,i3⟩ ?_
 rintro⟨wr,zd,r,l,k,q,AA,an,ac,LA,lc⟩ ⟨U,mz,ic,kw,ml,fh,_,jj,jy⟩
 refine d9 [(0,a1 g 0),(2,a9 AA an ac),(3,a9 LA k lc)] wr E ⟨rfl,rfl,rfl,i3⟩ ?_
 have nh:=ic.block
 have np:=ic.len
 have kr:=congrArg List.length fh
 simp only [cK] at kr
 refine bI (sr (mv 1 E (a7 (aD (bI ?_)))))
 refine dJ (T:=a6×List Int×List Int×Nat×Nat×Option a8×Nat×Nat) (fun⟨ws,ze,es,j,q2,BA,bn,bc⟩=> [(0,a1 g 0),(2,a9 BA bn bc),(3,a9 LA k lc),(4,a4 j)]) (fun⟨ws,ze,es,j,q2,BA,bn,bc⟩=>ws) (fun⟨ws,ze,es,j,q2,BA,bn,bc⟩=>(Upd g w ws)∧(Rdr ws g TA tn tc en ts q2 nv)∧(Lz none 1048576 w.heap.size ws w.heap.size BA bn bc (ze))∧(Own ws w.heap.size 3 1 LA k lc (cB k (a4 C)))∧(ts.drop q2=eW (aT 10) es++(gT (aT 10) l++rst))∧(ze++(es++l.flatten)=zs)∧(j+es.length=C)) (fun⟨ws,ze,es,j,q2,BA,bn,bc⟩=>es.length)
  (⟨wr,zd,r,0,q,AA,an,ac⟩:a6×List Int×List Int×Nat×Nat×Option a8×Nat×Nat) ⟨U,mz,ic,kw,ml,fh,(by omega)⟩ E ⟨rfl,rfl,rfl,rfl,i3⟩ ?_
 rintro⟨ws,ze,es,j,q2,BA,bn,bc⟩ ⟨U,D,o,aq,cu,L,cg⟩
 refine d9 [(0,a1 g 0),(2,a9 BA bn bc),(3,a9 LA k lc),(4,a4 j)] ws E ⟨rfl,rfl,rfl,rfl,i3⟩ ?_
 have cr:=o.block
 have nk:=o.len
 have jc:=congrArg List.length L
 simp only [cK] at jc
 refine aD (aD ?_)
 rcases es with _ | ⟨e,es⟩
 ·have jb:j≠0:=by rw [List.length_nil] at cg;omega
  rcases l with _ | ⟨r9,l9⟩
  ·obtain⟨H,gy,gg⟩:=hZ (show ts.drop q2=(3,[93])::rst from cu)
   refine aE (mv 1 E (aA E E E false (bV (a:=j) (b:=0) E E) (mv 2 E (bC E E (vs:= [a1 g 0,.string (aB ([45]))]) (by kernel_rfl) (by decide) (lD D (b:=false) (by rw [H];rfl)) ?_))))
   rintro _ v3 ⟨_,rfl,r5,e4⟩
   refine bB ?_
   have ae:Upd g w v3:=U.then_ext e4
   obtain rfl:=r5
   refine pu (v:= ik) E (mv 2 E (bC E E (vs:= [a1 g 0,I0,a4 1,.string (aB ([]))]) (by kernel_rfl) (by decide) (gJ (D.ext e4) (b:=false) (by rw [dF,H];rfl)) ?_))
   rintro _ v6 ⟨_,rfl,r8,e7⟩
   refine bB ?_
   have ab:Upd g w v6:=ae.then_ext e7
   obtain rfl:=r8
   refine pu (v:= ik) E (a7 (aI E (dA (d7 (dG (d8 (aJ (aD ?_))))))))
   obtain rfl:j=C:=by rw [List.length_nil] at cg;omega
   refine aE (mv 2 E (dN E E (k:=1) (e:=3) [a4 j] (fun _=>by kernel_rfl) fun _ lr nb=>?_))
   have iu:=nb.bk
   have da:=nb.ext
   clear nb
   have Y:Upd g w lr:=ab.then_ext da
   have ai:=(aq.ext (e4.t (e7.t da)))
   refine fB E E E l4 rI E ai Y.size [a4 j] E (iI iu) E fun lj mb mg je bm _=>?_
   have aj:Upd g w mg:=Upd.newO Y bm (fun p f=>(ai.block p f).1)
   refine mv 1 E (a7 (aD (sr (mv 1 E ?_))))
   have eg:=((D.ext (e4.t (e7.t da))).updO bm (fun p f=>by have:=(ai.block p f).1;omega) (fun p q f hq=>by have:=(ai.block p f).1;have:=aa q hq;omega)).hb
   refine bC E E (vs:= [a1 g 0,.string (aB ([93]))]) (by kernel_rfl) (by decide) (rM ((D.ext (e4.t (e7.t da))).updO bm (fun p f=>by have:=(ai.block p f).1;omega) (fun p q f hq=>by have:=(ai.block p f).1;have:=aa q hq;omega)) (by decide) (by omega) (by rw [H];rfl)) ?_
   rintro _ lf ⟨_,rfl,ky,gc,ir⟩
   refine bB ?_
   have br:Upd g w lf:=aj.trans gc
   obtain rfl:=ky
   refine a7 (b8 E (sr (mv 4 E (a7 (aW (bO (bZ (pE (bZ (aV [a9 BA bn bc,a9 lj (k+1) mb] E ⟨rfl,rfl,i3⟩ ?_))))))))))
   have mh:ze=zs:=by rw [←L];simp
   have jo:k+1=R:=by rw [List.length_nil] at jy;omega
   exact⟨_,_,_,_,_,_,(by rw [←jo];rfl),mh▸(((o.ext (e4.t (e7.t da))).updR ai bm (by decide) (by decide)).updT eg gc (cT (((o.ext (e4.t (e7.t da))).updR ai bm (by decide) (by decide)).own.choose_spec) eg (by decide))),(by rw [←jo,yQ];exact (je.updT eg (by decide) gc)),br,ir,gy⟩
  ·obtain⟨H,ja,gg⟩:=hZ (show ts.drop q2=(3,[59])::((eW (aT 10) r9++gT (aT 10) l9)++rst) from cu)
   rw [List.append_assoc] at ja
   have gb:ze++(r9++l9.flatten)=zs:=L
   refine aE (mv 1 E (aA E E E false (bV (a:=j) (b:=0) E E) (mv 2 E (bC E E (vs:= [a1 g 0,.string (aB ([45]))]) (by kernel_rfl) (by decide) (lD D (b:=false) (by rw [H];rfl)) ?_))))
   rintro _ mo ⟨_,rfl,kq,bo⟩
   refine bB ?_
   have ae:Upd g w mo:=U.then_ext bo
   obtain rfl:=kq
   refine pu (v:= ik) E (mv 2 E (bC E E (vs:= [a1 g 0,I0,a4 1,.string (aB ([]))]) (by kernel_rfl) (by decide) (gJ (D.ext bo) (b:=false) (by rw [dF,H];rfl)) ?_))
   rintro _ mu ⟨_,rfl,mc,bw⟩
   refine bB ?_
   have ab:Upd g w mu:=ae.then_ext bw
   obtain rfl:=mc
   refine pu (v:= ik) E (a7 (aI E (dA (d7 (dG (d8 (aJ (aD ?_))))))))
   obtain rfl:j=C:=by rw [List.length_nil] at cg;omega
   refine aE (mv 2 E (dN E E (k:=1) (e:=3) [a4 j] (fun _=>by kernel_rfl) fun _ kk nb=>?_))
   have iw:=nb.bk
   have bv:=nb.ext
   clear nb
   have Y:Upd g w kk:=ab.then_ext bv
   have X:=(aq.ext (bo.t (bw.t bv)))
   refine fB E E E l4 rI E X Y.size [a4 j] E (iI iw) E fun lw ku my jq au _=>?_
   have aj:Upd g w my:=Upd.newO Y au (fun p f=>(X.block p f).1)
   refine mv 1 E (a7 (aD (sr (mv 1 E (bC E E (vs:= [a1 g 0,.string (aB ([93]))]) (by kernel_rfl) (by decide) (jM ((D.ext (bo.t (bw.t bv))).updO au (fun p f=>by have:=(X.block p f).1;omega) (fun p q f hq=>by have:=(X.block p f).1;have:=aa q hq;omega)) (by rw [H];rfl)) ?_)))))
   rintro _ mn ⟨_,rfl,kz,cz⟩
   refine bB ?_
   have br:Upd g w mn:=aj.then_ext cz
   obtain rfl:=kz
   refine a7 (aI E (aY (aJ (aE (mv 1 E ?_)))))
   have dt:=(((D.ext (bo.t (bw.t bv))).updO au (fun p f=>by have:=(X.block p f).1;omega) (fun p q f hq=>by have:=(X.block p f).1;have:=aa q hq;omega)).ext cz).hb
   refine bC E E (vs:= [a1 g 0,.string (aB ([59]))]) (by kernel_rfl) (by decide) (pB (((D.ext (bo.t (bw.t bv))).updO au (fun p f=>by have:=(X.block p f).1;omega) (fun p q f hq=>by have:=(X.block p f).1;have:=aa q hq;omega)).ext cz) (by rw [H];rfl)) ?_
   rintro _ jf ⟨_,rfl,mr,ga,io⟩
   refine bB ?_
   have ig:Upd g w jf:=br.trans ga
   obtain rfl:=mr
   refine bA (bU (cW (⟨jf,ze,r9,l9,k+1,q2+1,BA,bn,bc,lw,ku⟩:a6×List Int×List Int×List (List Int)×Nat×Nat×Option a8×Nat×Nat×Option a8×Nat) ⟨ig,io,((((o.ext (bo.t (bw.t bv))).updR X au (by decide) (by decide)).ext cz).updT dt ga (cT ((((o.ext (bo.t (bw.t bv))).updR X au (by decide) (by decide)).ext cz).own.choose_spec) dt (by decide))),(by rw [yQ];exact ((jq.ext cz).updT dt (by decide) ga)),ja,gb,(jj _ (List.mem_cons_self ..)),(fun x hx=>jj x (List.mem_cons_of_mem _ hx)),(by rw [cS] at jy;omega)⟩ (Nat.lt_succ_self _) E ⟨rfl,rfl,rfl,i3⟩))
 ·have dl:ln e≤1048576:=hK e (by rw [←L];exact List.mem_append_right _ (List.mem_append_left _ (List.mem_cons_self ..)))
  have co:=F1 dl
  by_cases fa:e<0
  ·rw [u3 fa] at cu
   obtain⟨H,gy,gg⟩:=hZ (show ts.drop q2=(3,[45])::((1,aT 10 e.natAbs)::(eW (aT 10) es++(gT (aT 10) l++rst))) from cu)
   obtain⟨jw,dm,_⟩:=hZ gy
   by_cases jb:j=0
   ·refine aE (mv 1 E (aA E E E true (dB (a:=j) (b:=0) E E) (mv 3 E (pu (v:= gx) E (mv 3 E (pu (v:= gx) E (a7 (b8 E (aY (aJ (bI (sr (mv 1 E ?_)))))))))))))
    have V:=D.hb
    refine bC E E (vs:= [a1 g 0,.string (aB ([45]))]) (by kernel_rfl) (by decide) (rM D (by decide) (by omega) (by rw [H];rfl)) ?_
    rintro _ lp ⟨_,rfl,kx,ax,ew⟩
    refine bB ?_
    have ae:Upd g w lp:=U.trans ax
    obtain rfl:=kx
    refine mv 1 E (a7 (sr (mv 1 E ?_)))
    have av:=ew.hb
    refine bC E E (vs:= [a1 g 0]) (by kernel_rfl) (by decide) (by have h:=nN ew jw (gK (Int.natAbs e)) co;rw [mU] at h;exact h.mono (RG.imp (WR.imp ae.size))) ?_
    rintro _ mi ⟨_,rfl,ly,bz,fw⟩
    refine bB ?_
    have ab:Upd g w mi:=ae.trans bz
    obtain⟨gi,cv,ie,rfl,ia,ju⟩:=ly
    have kp:0<cv:=by rw [ia];exact xH (show Int.natAbs e≠0 by omega)
    refine mv 1 E (a7 (sr (mv 4 E (pu (v:= a4 cv) E (aA E E E true (iM (a:=cv) (b:=0) E E) (pu (v:= gx) E (mv 1 E (pu (v:= G true gi cv ie) E (dN E E (k:=1) (e:=46) (J true gi cv ie) (fun _=>by kernel_rfl) fun ef lu nb=>?_)))))))))
    have fk:=nb.bk
    have ng:w.heap.size≤ef:=by rw [←nb.at_];exact ab.size
    have nr:g<ef:=by rw [←nb.at_];exact fw.hb.lt
    have jl:∀p:a8,BA=some p→p.block≠ef:=fun p f=>by have:=(((o.updT V ax (cT (o.own.choose_spec) V (by decide))).updT av bz (cT ((o.updT V ax (cT (o.own.choose_spec) V (by decide))).own.choose_spec) av (by decide)))).block p f;have:=nb.at_;omega
    have ge:∀p:a8,LA=some p→p.block<ef:=fun p f=>by have:=((((aq.updT V (by decide) ax).updT av (by decide) bz)).block p f).2;have:=nb.at_;omega
    have ni:∀p:a8,LA=some p→p.block≠ef:=fun p f=>Nat.ne_of_lt (ge p f)
    have cd:=nb.ext
    clear nb
    have Y:Upd g w lu:=ab.then_ext cd
    have fq:=(((o.updT V ax (cT (o.own.choose_spec) V (by decide))).updT av bz (cT ((o.updT V ax (cT (o.own.choose_spec) V (by decide))).own.choose_spec) av (by decide))).ext cd)
    obtain⟨_,cb⟩:=fq.own
    refine qI (e:=⟨true,gi,cv,ie⟩) (z:= -((Int.natAbs e:Nat):Int)) E E E fq (aN (aN (aN U.by_.size ax.by_.size) bz.by_.size) cd.size) fk (bY ((s0 (show Int.natAbs e≠0 by omega) ia ju).ext cd)) ((s0 (show Int.natAbs e≠0 by omega) ia ju).le (aN (show ln (-((Int.natAbs e:Nat):Int))≤1048576 by rw [AH,rF];exact dl) (by decide))) fun ka iq em fm cm jd=>?_
    have aj:Upd g w em:=Upd.newO Y cm (fun p f=>by have:=cr p f;omega)
    have jt:w.heap.size≤em.heap.size:=aN (aN (aN (aN U.by_.size ax.by_.size) bz.by_.size) cd.size) cm.size
    have nm:=jI jd fk.lt jl
    have mt:=fm.block
    refine mv 1 E (a7 (aE (mv 1 E (bF E E E ((j+1:Nat):Int) (d6 (a:=j) (b:=1) E E) (mv 1 E (bA (bU ?_)))))))
    have ch:Lz none 1048576 w.heap.size em w.heap.size ka (bn+1) iq (ze++ [e]):=by have h:=fm;rw [show-((Int.natAbs e:Nat):Int)=e by omega] at h;exact h
    refine cW (⟨em,ze++ [e],es,j+1,q2+1+1,ka,bn+1,iq⟩:a6×List Int×List Int×Nat×Nat×Option a8×Nat×Nat) ⟨aj,((fw.ext cd).updO cm (fun p f=>by have:=(cb.block p f).1;omega) (fun p q f hq=>by have:=(cb.block p f).1;have:=aa q hq;omega)),ch,((((aq.updT V (by decide) ax).updT av (by decide) bz).ext cd).updOT cb (by decide) cm),dm,(by rw [List.append_assoc];exact L),(by rw [cS] at cg;omega)⟩ (Nat.lt_succ_self _) E ⟨rfl,rfl,rfl,rfl,i3⟩
   ·refine aE (mv 1 E (aA E E E false (bV (a:=j) (b:=0) E E) (mv 2 E (bC E E (vs:= [a1 g 0,.string (aB ([45]))]) (by kernel_rfl) (by decide) (lD D (b:=true) (by rw [H];rfl)) ?_))))
    rintro _ ll ⟨_,rfl,mw,Z⟩
    refine bB ?_
    have ae:Upd g w ll:=U.then_ext Z
    obtain rfl:=mw
    refine pu (v:= gx) E (mv 3 E (pu (v:= gx) E (a7 (b8 E (aY (aJ (bI (sr (mv 1 E ?_)))))))))
    have W:=(D.ext Z).hb
    refine bC E E (vs:= [a1 g 0,.string (aB ([45]))]) (by kernel_rfl) (by decide) (rM (D.ext Z) (by decide) (by omega) (by rw [H];rfl)) ?_
    rintro _ mq ⟨_,rfl,mf,ba,ez⟩
    refine bB ?_
    have ab:Upd g w mq:=ae.trans ba
    obtain rfl:=mf
    refine mv 1 E (a7 (sr (mv 1 E ?_)))
    have ar:=ez.hb
    refine bC E E (vs:= [a1 g 0]) (by kernel_rfl) (by decide) (by have h:=nN ez jw (gK (Int.natAbs e)) co;rw [mU] at h;exact h.mono (RG.imp (WR.imp ab.size))) ?_
    rintro _ mj ⟨_,rfl,lq,bu,fd⟩
    refine bB ?_
    have Y:Upd g w mj:=ab.trans bu
    obtain⟨gj,cx,gn,rfl,fy,kb⟩:=lq
    have lx:0<cx:=by rw [fy];exact xH (show Int.natAbs e≠0 by omega)
    refine mv 1 E (a7 (sr (mv 4 E (pu (v:= a4 cx) E (aA E E E true (iM (a:=cx) (b:=0) E E) (pu (v:= gx) E (mv 1 E (pu (v:= G true gj cx gn) E (dN E E (k:=1) (e:=46) (J true gj cx gn) (fun _=>by kernel_rfl) fun df ld nb=>?_)))))))))
    have fj:=nb.bk
    have mx:w.heap.size≤df:=by rw [←nb.at_];exact Y.size
    have nd:g<df:=by rw [←nb.at_];exact fd.hb.lt
    have fx:∀p:a8,BA=some p→p.block≠df:=fun p f=>by have:=((((o.ext Z).updT W ba (cT ((o.ext Z).own.choose_spec) W (by decide))).updT ar bu (cT (((o.ext Z).updT W ba (cT ((o.ext Z).own.choose_spec) W (by decide))).own.choose_spec) ar (by decide)))).block p f;have:=nb.at_;omega
    have ej:∀p:a8,LA=some p→p.block<df:=fun p f=>by have:=(((((aq.ext Z).updT W (by decide) ba).updT ar (by decide) bu)).block p f).2;have:=nb.at_;omega
    have ma:∀p:a8,LA=some p→p.block≠df:=fun p f=>Nat.ne_of_lt (ej p f)
    have cf:=nb.ext
    clear nb
    have aj:Upd g w ld:=Y.then_ext cf
    have dg:=((((o.ext Z).updT W ba (cT ((o.ext Z).own.choose_spec) W (by decide))).updT ar bu (cT (((o.ext Z).updT W ba (cT ((o.ext Z).own.choose_spec) W (by decide))).own.choose_spec) ar (by decide))).ext cf)
    obtain⟨_,bf⟩:=dg.own
    refine qI (e:=⟨true,gj,cx,gn⟩) (z:= -((Int.natAbs e:Nat):Int)) E E E dg (aN (aN (aN (aN U.by_.size Z.size) ba.by_.size) bu.by_.size) cf.size) fj (bY ((s0 (show Int.natAbs e≠0 by omega) fy kb).ext cf)) ((s0 (show Int.natAbs e≠0 by omega) fy kb).le (aN (show ln (-((Int.natAbs e:Nat):Int))≤1048576 by rw [AH,rF];exact dl) (by decide))) fun fi fv ck de az fz=>?_
    have br:Upd g w ck:=Upd.newO aj az (fun p f=>by have:=cr p f;omega)
    have ij:w.heap.size≤ck.heap.size:=aN (aN (aN (aN (aN U.by_.size Z.size) ba.by_.size) bu.by_.size) cf.size) az.size
    have lh:=jI fz fj.lt fx
    have ki:=de.block
    refine mv 1 E (a7 (aE (mv 1 E (bF E E E ((j+1:Nat):Int) (d6 (a:=j) (b:=1) E E) (mv 1 E (bA (bU ?_)))))))
    have ch:Lz none 1048576 w.heap.size ck w.heap.size fi (bn+1) fv (ze++ [e]):=by have h:=de;rw [show-((Int.natAbs e:Nat):Int)=e by omega] at h;exact h
    refine cW (⟨ck,ze++ [e],es,j+1,q2+1+1,fi,bn+1,fv⟩:a6×List Int×List Int×Nat×Nat×Option a8×Nat×Nat) ⟨br,((fd.ext cf).updO az (fun p f=>by have:=(bf.block p f).1;omega) (fun p q f hq=>by have:=(bf.block p f).1;have:=aa q hq;omega)),ch,(((((aq.ext Z).updT W (by decide) ba).updT ar (by decide) bu).ext cf).updOT bf (by decide) az),dm,(by rw [List.append_assoc];exact L),(by rw [cS] at cg;omega)⟩ (Nat.lt_succ_self _) E ⟨rfl,rfl,rfl,rfl,i3⟩
  ·rw [tZ fa] at cu
   obtain⟨H,dm,gg⟩:=hZ (show ts.drop q2=(1,aT 10 e.natAbs)::(eW (aT 10) es++(gT (aT 10) l++rst)) from cu)
   by_cases jb:j=0
   ·refine aE (mv 1 E (aA E E E true (dB (a:=j) (b:=0) E E) (mv 3 E (pu (v:= gx) E (mv 3 E (pu (v:= gx) E (a7 (b8 E (aY (aJ (bI (sr (mv 1 E ?_)))))))))))))
    refine bC E E (vs:= [a1 g 0,.string (aB ([45]))]) (by kernel_rfl) (by decide) (jM D (by rw [H];rfl)) ?_
    rintro _ jg ⟨_,rfl,jz,M⟩
    refine bB ?_
    have ae:Upd g w jg:=U.then_ext M
    obtain rfl:=jz
    refine mv 1 E (a7 (sr (mv 1 E ?_)))
    have ah:=(D.ext M).hb
    refine bC E E (vs:= [a1 g 0]) (by kernel_rfl) (by decide) (by have h:=nN (D.ext M) H (gK (Int.natAbs e)) co;rw [mU] at h;exact h.mono (RG.imp (WR.imp ae.size))) ?_
    rintro _ iv ⟨_,rfl,jr,ak,dz⟩
    refine bB ?_
    have ab:Upd g w iv:=ae.trans ak
    obtain⟨dq,ec,dx,rfl,fg,ep⟩:=jr
    refine mv 1 E (a7 (sr (mv 6 E (pu (v:= ik) E (mv 1 E (pu (v:= .agg #[F0,a9 dq ec dx]) E (dN E E (k:=1) (e:=46) [F0,a9 dq ec dx] (fun _=>by kernel_rfl) fun bh jh nb=>?_)))))))
    have ea:=nb.bk
    have lz:w.heap.size≤bh:=by rw [←nb.at_];exact ab.size
    have nf:g<bh:=by rw [←nb.at_];exact dz.hb.lt
    have gr:∀p:a8,BA=some p→p.block≠bh:=fun p f=>by have:=(((o.ext M).updT ah ak (cT ((o.ext M).own.choose_spec) ah (by decide)))).block p f;have:=nb.at_;omega
    have ei:∀p:a8,LA=some p→p.block<bh:=fun p f=>by have:=((((aq.ext M).updT ah (by decide) ak)).block p f).2;have:=nb.at_;omega
    have lg:∀p:a8,LA=some p→p.block≠bh:=fun p f=>Nat.ne_of_lt (ei p f)
    have ao:=nb.ext
    clear nb
    have Y:Upd g w jh:=ab.then_ext ao
    have dh:=(((o.ext M).updT ah ak (cT ((o.ext M).own.choose_spec) ah (by decide))).ext ao)
    obtain⟨_,aw⟩:=dh.own
    refine qI (e:=⟨false,dq,ec,dx⟩) (z:=((Int.natAbs e:Nat):Int)) E E E dh (aN (aN (aN U.by_.size M.size) ak.by_.size) ao.size) ea (bY ((pO fg ep).ext ao)) ((pO fg ep).le (aN (show ln ((Int.natAbs e:Nat):Int)≤1048576 by rw [rF];exact dl) (by decide))) fun ey ft cj dr bg gk=>?_
    have aj:Upd g w cj:=Upd.newO Y bg (fun p f=>by have:=cr p f;omega)
    have il:w.heap.size≤cj.heap.size:=aN (aN (aN (aN U.by_.size M.size) ak.by_.size) ao.size) bg.size
    have kt:=jI gk ea.lt gr
    have kj:=dr.block
    refine mv 1 E (a7 (aE (mv 1 E (bF E E E ((j+1:Nat):Int) (d6 (a:=j) (b:=1) E E) (mv 1 E (bA (bU ?_)))))))
    have ch:Lz none 1048576 w.heap.size cj w.heap.size ey (bn+1) ft (ze++ [e]):=by have h:=dr;rw [show ((Int.natAbs e:Nat):Int)=e by omega] at h;exact h
    refine cW (⟨cj,ze++ [e],es,j+1,q2+1,ey,bn+1,ft⟩:a6×List Int×List Int×Nat×Nat×Option a8×Nat×Nat) ⟨aj,((dz.ext ao).updO bg (fun p f=>by have:=(aw.block p f).1;omega) (fun p q f hq=>by have:=(aw.block p f).1;have:=aa q hq;omega)),ch,((((aq.ext M).updT ah (by decide) ak).ext ao).updOT aw (by decide) bg),dm,(by rw [List.append_assoc];exact L),(by rw [cS] at cg;omega)⟩ (Nat.lt_succ_self _) E ⟨rfl,rfl,rfl,rfl,i3⟩
   ·refine aE (mv 1 E (aA E E E false (bV (a:=j) (b:=0) E E) (mv 2 E (bC E E (vs:= [a1 g 0,.string (aB ([45]))]) (by kernel_rfl) (by decide) (lD D (b:=false) (by rw [H];rfl)) ?_))))
    rintro _ jk ⟨_,rfl,iy,F⟩
    refine bB ?_
    have ae:Upd g w jk:=U.then_ext F
    obtain rfl:=iy
    refine pu (v:= ik) E (mv 2 E (bC E E (vs:= [a1 g 0,I0,a4 1,.string (aB ([]))]) (by kernel_rfl) (by decide) (gJ (D.ext F) (b:=true) (by rw [dF,H];rfl)) ?_))
    rintro _ jm ⟨_,rfl,jp,I⟩
    refine bB ?_
    have ab:Upd g w jm:=ae.then_ext I
    obtain rfl:=jp
    refine pu (v:= gx) E (a7 (b8 E (aY (aJ (bI (sr (mv 1 E (bC E E (vs:= [a1 g 0,.string (aB ([45]))]) (by kernel_rfl) (by decide) (jM (D.ext (F.t I)) (by rw [H];rfl)) ?_))))))))
    rintro _ jv ⟨_,rfl,ke,O⟩
    refine bB ?_
    have Y:Upd g w jv:=ab.then_ext O
    obtain rfl:=ke
    refine mv 1 E (a7 (sr (mv 1 E ?_)))
    have ag:=(D.ext (F.t (I.t O))).hb
    refine bC E E (vs:= [a1 g 0]) (by kernel_rfl) (by decide) (by have h:=nN (D.ext (F.t (I.t O))) H (gK (Int.natAbs e)) co;rw [mU] at h;exact h.mono (RG.imp (WR.imp Y.size))) ?_
    rintro _ jx ⟨_,rfl,iz,ap,dw⟩
    refine bB ?_
    have aj:Upd g w jx:=Y.trans ap
    obtain⟨eb,eh,du,rfl,fe,fo⟩:=iz
    refine mv 1 E (a7 (sr (mv 6 E (pu (v:= ik) E (mv 1 E (pu (v:= .agg #[F0,a9 eb eh du]) E (dN E E (k:=1) (e:=46) [F0,a9 eb eh du] (fun _=>by kernel_rfl) fun bi ji nb=>?_)))))))
    have dd:=nb.bk
    have me:w.heap.size≤bi:=by rw [←nb.at_];exact aj.size
    have nj:g<bi:=by rw [←nb.at_];exact dw.hb.lt
    have gf:∀p:a8,BA=some p→p.block≠bi:=fun p f=>by have:=(((o.ext (F.t (I.t O))).updT ag ap (cT ((o.ext (F.t (I.t O))).own.choose_spec) ag (by decide)))).block p f;have:=nb.at_;omega
    have el:∀p:a8,LA=some p→p.block<bi:=fun p f=>by have:=((((aq.ext (F.t (I.t O))).updT ag (by decide) ap)).block p f).2;have:=nb.at_;omega
    have li:∀p:a8,LA=some p→p.block≠bi:=fun p f=>Nat.ne_of_lt (el p f)
    have am:=nb.ext
    clear nb
    have br:Upd g w ji:=aj.then_ext am
    have dy:=(((o.ext (F.t (I.t O))).updT ag ap (cT ((o.ext (F.t (I.t O))).own.choose_spec) ag (by decide))).ext am)
    obtain⟨_,bd⟩:=dy.own
    refine qI (e:=⟨false,eb,eh,du⟩) (z:=((Int.natAbs e:Nat):Int)) E E E dy (aN (aN (aN (aN (aN U.by_.size F.size) I.size) O.size) ap.by_.size) am.size) dd (bY ((pO fe fo).ext am)) ((pO fe fo).le (aN (show ln ((Int.natAbs e:Nat):Int)≤1048576 by rw [rF];exact dl) (by decide))) fun fp fb ci ee ay ib=>?_
    have ig:Upd g w ci:=Upd.newO br ay (fun p f=>by have:=cr p f;omega)
    have im:w.heap.size≤ci.heap.size:=aN (aN (aN (aN (aN (aN U.by_.size F.size) I.size) O.size) ap.by_.size) am.size) ay.size
    have ko:=jI ib dd.lt gf
    have kg:=ee.block
    refine mv 1 E (a7 (aE (mv 1 E (bF E E E ((j+1:Nat):Int) (d6 (a:=j) (b:=1) E E) (mv 1 E (bA (bU ?_)))))))
    have ch:Lz none 1048576 w.heap.size ci w.heap.size fp (bn+1) fb (ze++ [e]):=by have h:=ee;rw [show ((Int.natAbs e:Nat):Int)=e by omega] at h;exact h
    refine cW (⟨ci,ze++ [e],es,j+1,q2+1,fp,bn+1,fb⟩:a6×List Int×List Int×Nat×Nat×Option a8×Nat×Nat) ⟨ig,((dw.ext am).updO ay (fun p f=>by have:=(bd.block p f).1;omega) (fun p q f hq=>by have:=(bd.block p f).1;have:=aa q hq;omega)),ch,((((aq.ext (F.t (I.t O))).updT ag (by decide) ap).ext am).updOT bd (by decide) ay),dm,(by rw [List.append_assoc];exact L),(by rw [cS] at cg;omega)⟩ (Nat.lt_succ_self _) E ⟨rfl,rfl,rfl,rfl,i3⟩
theorem zU {tx:Nat→List Nat}(h:zs.length=R*C)(hz:zs≠ []):∃r0 l0,f6 tx R C zs=(3,[91])::(eW tx r0++gT tx l0)∧1≤C∧r0.length=C∧(∀x,x∈l0→x.length=C)∧1+l0.length=R∧r0++l0.flatten=zs:=by
 have h1:=oR h
 have h2:=nB R C zs
 have f:=tW h
 unfold f6
 rw [if_neg hz]
 cases hr:dC R C zs with
 | nil=>rw [hr] at h1;exact absurd h1.symm hz
 | cons r0 l0=>
  rw [hr] at h1 h2 f
  refine⟨r0,l0,rfl,?_,f _ (List.mem_cons_self ..),fun x j=>f x (List.mem_cons_of_mem _ j),by rw [←h2,cS,Nat.add_comm],h1⟩
  rcases gQ C with e | e
  ·rw [e,fR] at h;exact absurd (kU.1 h) hz
  ·exact e
theorem rR (h:ts.drop j=X):ts[j]?=X.head?:=by rw [←h,List.head?_drop]
theorem GA {tx:Nat→List Nat}:i8 ((eW tx es++(gT tx l++rst)).head?) 3 [58]=false:=by
 cases es with
 | nil=>cases l <;> rfl
 | cons e es=>
  by_cases h:e<0
  ·rw [u3 h];rfl
  ·rw [tZ h];rfl
theorem L9 {TA:Option a8}{nv:aC}(hR:Rdr w g TA tn tc en ts i nv)(hR':R≤64)(hC:C≤64)(hzl:zs.length=R*C)(hts:ts.drop i=f6 (aT 10) R C zs++rst)(hz:zs≠ [])(hK:∀z,z∈zs→ln z≤1048576):aU aG 21 #[a1 g 0] w (fun e w'=>∃AA an ac q,e= .returned (.agg #[a4 R,a4 C,a9 AA an ac])∧Lz none 1048576 w.heap.size w' w.heap.size AA an ac zs∧Upd g w w'∧Rdr w' g TA tn tc en ts q nv∧ts.drop q=rst):=by
 obtain⟨r0,l0,fd,dm,bh,bw,bv,cj⟩:=zU (tx:=aT 10) hzl hz
 have cr:zs.length≤4096:=hzl▸lC hR' hC
 have ae:1≤R:=by omega
 refine bJ Tryz.func21 E (n:=85) E (bq E) (args:= [a1 g 0]) ?_
 have fh:=hR.hb.lt
 have fx:=hR.le
 have fp:=hR.lim
 have fw:=hR.len
 have bd:∀p,TA=some p→p.block<g:=hR.lt
 refine bH [(0,a1 g 0)] ⟨rfl,i3⟩ (sr (eK E (z:= .agg #[I0,I0,S0]) (vs:= [I0,I0,S0]) (fun _=>by kernel_rfl) E fun g1 v2 nb=>?_))
 have av:=nb.bk
 have cd:w.heap.size≤g1:=by rw [←nb.at_];exact (Upd.refl g w).size
 have q6:g<g1:=by rw [←nb.at_];exact hR.hb.lt
 have e3:=nb.ext
 clear nb
 have Z:Upd g w v2:=(Upd.refl g w).then_ext e3
 refine a7 (sr (mv 1 E (bC E E (vs:= [a1 g 0]) (by kernel_rfl) (by decide) (BO (hR.ext e3)) ?_)))
 rintro _ v7 ⟨_,rfl,r9,e8⟩
 refine bB ?_
 have ai:Upd g w v7:=Z.then_ext e8
 obtain⟨_,rfl⟩:=r9
 refine mv 1 E (a7 (aD ?_))
 obtain⟨eg,X,_⟩:=hZ (show ts.drop i=(3,[91])::((eW (aT 10) r0++gT (aT 10) l0)++rst) by rw [hts,fd];rfl)
 rw [List.append_assoc] at X
 refine aE (mv 1 E ?_)
 have fo:=(hR.ext (e3.t e8)).hb
 refine bC E E (vs:= [a1 g 0,.string (aB ([91]))]) (by kernel_rfl) (by decide) (pB (hR.ext (e3.t e8)) (by rw [eg];rfl)) ?_
 rintro _ ee ⟨_,rfl,fg,aq,F⟩
 refine bB ?_
 have cb:Upd g w ee:=ai.trans aq
 obtain rfl:=fg
 refine a7 (aD (aD ?_))
 rcases r0 with _ | ⟨e,es⟩
 ·exact absurd bh (by rw [List.length_nil];omega)
 ·by_cases az:e<0
  ·have V:=X
   rw [u3 az] at V
   obtain⟨bi,_,ez⟩:=hZ (show ts.drop (i+1)=(3,[45])::((1,aT 10 e.natAbs)::(eW (aT 10) es++(gT (aT 10) l0++rst))) from V)
   refine aE (mv 1 E (bC E E (vs:= [a1 g 0,I0,a4 1,.string (aB ([]))]) (by kernel_rfl) (by decide) (gJ F (b:=false) (by rw [dF,bi];rfl)) ?_))
   rintro _ ea ⟨_,rfl,em,ar⟩
   refine bB ?_
   have aa:Upd g w ea:=cb.then_ext ar
   obtain rfl:=em
   refine mv 3 E (pu (v:= ik) E (a7 (aI E (aY (aJ (sr (mv 1 E ?_)))))))
   have fk:=(F.ext ar).hb
   refine bC E E (vs:= [a1 g 0]) (by kernel_rfl) (by decide) (BN (F.ext ar) X dm bh bw bv cj hK cr hR') ?_
   rintro _ cv ⟨h,r,o,L,H,fa,rfl,W,aj,ce,cu,ch⟩
   refine bB ?_
   have dh:∀p:a8,h=some p→p.block≠g1:=fun p hp=>by have:=(W.block p hp).1;have:=(((av.ext e8).vN aq).ext ar).lt;omega
   replace W:=W.mono (aZ _) aa.size aa.size
   replace aj:=aj.mono aa.size
   have ag:Upd g w cv:=aa.trans ce
   have ec:=W.block
   refine mv 1 E (pu (v:= a9 h r o) E (pu (v:= a9 L R H) E (mv 2 E (a7 (aD (sr (mv 1 E (pu (v:= a4 R) E (mv 1 E (a7 (bI ?_)))))))))))
   refine dJ (T:=a6×Nat) (fun⟨wr,p⟩=> [(0,a1 g 0),(2,a1 g1 0),(6,a9 h r o),(7,a9 L R H),(51,a9 L R H),(52,a4 R),(53,a4 p)]) (fun⟨wr,p⟩=>wr) (fun⟨wr,p⟩=>(Upd g w wr)∧(Rdr wr g TA tn tc en ts fa nv)∧(Lz none 1048576 w.heap.size wr w.heap.size h r o zs)∧(Own wr w.heap.size 3 1 L R H (cB R (a4 C)))∧(Bk wr g1 24 [I0,I0,S0])∧(∀p:a8,h=some p→p.block≠g1)∧(p≤R)) (fun⟨wr,p⟩=>R-p)
    (⟨cv,0⟩:a6×Nat) ⟨ag,cu,W,aj,((((av.ext e8).vN aq).ext ar).vN ce),dh,(cE _)⟩ E ⟨rfl,rfl,rfl,rfl,rfl,rfl,rfl,i3⟩ ?_
   rintro⟨wr,p⟩ ⟨Z,ae,U,O,hB,bf,hp⟩
   refine d9 [(0,a1 g 0),(2,a1 g1 0),(6,a9 h r o),(7,a9 L R H),(51,a9 L R H),(52,a4 R),(53,a4 p)] wr E ⟨rfl,rfl,rfl,rfl,rfl,rfl,rfl,i3⟩ ?_
   have dt:=U.block
   refine aD ?_
   by_cases ei:p<R
   ·refine aE (aA E E E true (d5 (a:=p) (b:=R) E E) (a7 (aD (b8 E (aY (aJ (aD (bI (sr ?_)))))))))
    obtain⟨dw,cf,cx⟩:=nD O (i:=p)
    refine cG E E E Tryz.underlying38 gU p E dw cf (aH E E (cO (fun _=>by kernel_rfl) cx) (mv 1 E (a7 (sr (mv 2 E ?_)))))
    obtain⟨ew,br,co⟩:=nD O (i:=0)
    refine cG E E E Tryz.underlying38 gU 0 E ew br (aH E E (cO (fun _=>by kernel_rfl) co) (aA E E E false (lJ (a:=C) (b:=C) E E) (a7 (aI E (aY (bU (aJ (aE (bF E E E ((p+1:Nat):Int) (d6 (a:=p) (b:=1) E E) (mv 1 E (bA (cW (⟨wr,p+1⟩:a6×Nat) ⟨Z,ae,U,O,hB,bf,(by omega)⟩ (show R-(p+1)<R-p by omega) E ⟨rfl,rfl,rfl,rfl,rfl,rfl,rfl,i3⟩))))))))))))
   ·refine aE (aA E E E false (f8 (a:=p) (b:=R) E E) (a7 (aD (aI E (dA (d7 (dG (d8 (aJ (aD (sr (mv 1 E (pu (v:= a4 R) E ?_)))))))))))))
    refine aA E E E false (fH (a:=R) (b:=64) E E) (mv 2 E ?_)
    obtain⟨ck,ax,ba⟩:=nD O (i:=0)
    refine cG E E E Tryz.underlying38 gU 0 E ck ax (aH E E (cO (fun _=>by kernel_rfl) ba) (aA E E E false (fH (a:=C) (b:=64) E E) (pu (v:= ik) E (a7 (aI E (aY (aJ (sr (mv 1 E (pu (v:= a4 R) E (mv 1 E (cG E E E Tryz.underlying38 gU 0 E ck ax (aH E E (cO (fun _=>by kernel_rfl) ba) ?_)))))))))))))
    refine mv 1 E (pu (v:= .agg #[a4 R,a4 C,a9 h r o]) E ?_)
    have ap:=hB
    refine kX E E E dP E ap (bq E) E [a4 R,a4 C,a9 h r o] E fun ef bo bg _=>?_
    have ai:Upd g w ef:=Upd.newU Z bg cd
    refine a7 (aW (aV [.agg #[a4 R,a4 C,a9 h r o]] E ⟨⟨_,rfl,gH dP bo [a4 R,a4 C,a9 h r o] E (bq E) rfl⟩,i3⟩ ?_))
    exact⟨_,_,_,_,rfl,(U.updT ap bg (cT (U.own.choose_spec) ap (by decide))),ai,(ae.upd bg (by omega) (fun p hp=>by have:=bd p hp;omega)),ch⟩
  ·have V:=X
   rw [tZ az] at V
   obtain⟨bi,dy,ez⟩:=hZ (show ts.drop (i+1)=(1,aT 10 e.natAbs)::(eW (aT 10) es++(gT (aT 10) l0++rst)) from V)
   have ey:i8 (ts[i+1+1]?) 3 [58]=false:=by rw [rR dy];exact GA
   refine aE (mv 1 E (bC E E (vs:= [a1 g 0,I0,a4 1,.string (aB ([]))]) (by kernel_rfl) (by decide) (gJ F (b:=true) (by rw [dF,bi];rfl)) ?_))
   rintro _ fb ⟨_,rfl,dx,ab⟩
   refine bB ?_
   have aa:Upd g w fb:=cb.then_ext ab
   obtain rfl:=dx
   refine mv 2 E (bC E E (vs:= [a1 g 0,a4 1,a4 3,.string (aB ([58]))]) (by kernel_rfl) (by decide) (gJ (F.ext ab) (b:=false) ey) ?_)
   rintro _ du ⟨_,rfl,fi,am⟩
   refine bB ?_
   have ag:Upd g w du:=aa.then_ext am
   obtain rfl:=fi
   refine pu (v:= ik) E (a7 (aI E (aY (aJ (sr (mv 1 E ?_))))))
   have fj:=(F.ext (ab.t am)).hb
   refine bC E E (vs:= [a1 g 0]) (by kernel_rfl) (by decide) (BN (F.ext (ab.t am)) X dm bh bw bv cj hK cr hR') ?_
   rintro _ bu ⟨f,D,j,M,I,eh,rfl,Y,ak,dg,cm,ci⟩
   refine bB ?_
   have cg:∀p:a8,f=some p→p.block≠g1:=fun p hp=>by have:=(Y.block p hp).1;have:=(((av.ext e8).vN aq).ext (ab.t am)).lt;omega
   replace Y:=Y.mono (aZ _) ag.size ag.size
   replace ak:=ak.mono ag.size
   have dr:Upd g w bu:=ag.trans dg
   have fe:=Y.block
   refine mv 1 E (pu (v:= a9 f D j) E (pu (v:= a9 M R I) E (mv 2 E (a7 (aD (sr (mv 1 E (pu (v:= a4 R) E (mv 1 E (a7 (bI ?_)))))))))))
   refine dJ (T:=a6×Nat) (fun⟨wr,p⟩=> [(0,a1 g 0),(2,a1 g1 0),(6,a9 f D j),(7,a9 M R I),(51,a9 M R I),(52,a4 R),(53,a4 p)]) (fun⟨wr,p⟩=>wr) (fun⟨wr,p⟩=>(Upd g w wr)∧(Rdr wr g TA tn tc en ts eh nv)∧(Lz none 1048576 w.heap.size wr w.heap.size f D j zs)∧(Own wr w.heap.size 3 1 M R I (cB R (a4 C)))∧(Bk wr g1 24 [I0,I0,S0])∧(∀p:a8,f=some p→p.block≠g1)∧(p≤R)) (fun⟨wr,p⟩=>R-p)
    (⟨bu,0⟩:a6×Nat) ⟨dr,cm,Y,ak,((((av.ext e8).vN aq).ext (ab.t am)).vN dg),cg,(cE _)⟩ E ⟨rfl,rfl,rfl,rfl,rfl,rfl,rfl,i3⟩ ?_
   rintro⟨wr,p⟩ ⟨Z,ae,U,O,hB,bf,hp⟩
   refine d9 [(0,a1 g 0),(2,a1 g1 0),(6,a9 f D j),(7,a9 M R I),(51,a9 M R I),(52,a4 R),(53,a4 p)] wr E ⟨rfl,rfl,rfl,rfl,rfl,rfl,rfl,i3⟩ ?_
   have el:=U.block
   refine aD ?_
   by_cases ei:p<R
   ·refine aE (aA E E E true (d5 (a:=p) (b:=R) E E) (a7 (aD (b8 E (aY (aJ (aD (bI (sr ?_)))))))))
    obtain⟨ej,de,df⟩:=nD O (i:=p)
    refine cG E E E Tryz.underlying38 gU p E ej de (aH E E (cO (fun _=>by kernel_rfl) df) (mv 1 E (a7 (sr (mv 2 E ?_)))))
    obtain⟨ep,cz,bz⟩:=nD O (i:=0)
    refine cG E E E Tryz.underlying38 gU 0 E ep cz (aH E E (cO (fun _=>by kernel_rfl) bz) (aA E E E false (lJ (a:=C) (b:=C) E E) (a7 (aI E (aY (bU (aJ (aE (bF E E E ((p+1:Nat):Int) (d6 (a:=p) (b:=1) E E) (mv 1 E (bA (cW (⟨wr,p+1⟩:a6×Nat) ⟨Z,ae,U,O,hB,bf,(by omega)⟩ (show R-(p+1)<R-p by omega) E ⟨rfl,rfl,rfl,rfl,rfl,rfl,rfl,i3⟩))))))))))))
   ·refine aE (aA E E E false (f8 (a:=p) (b:=R) E E) (a7 (aD (aI E (dA (d7 (dG (d8 (aJ (aD (sr (mv 1 E (pu (v:= a4 R) E ?_)))))))))))))
    refine aA E E E false (fH (a:=R) (b:=64) E E) (mv 2 E ?_)
    obtain⟨da,aw,ay⟩:=nD O (i:=0)
    refine cG E E E Tryz.underlying38 gU 0 E da aw (aH E E (cO (fun _=>by kernel_rfl) ay) (aA E E E false (fH (a:=C) (b:=64) E E) (pu (v:= ik) E (a7 (aI E (aY (aJ (sr (mv 1 E (pu (v:= a4 R) E (mv 1 E (cG E E E Tryz.underlying38 gU 0 E da aw (aH E E (cO (fun _=>by kernel_rfl) ay) ?_)))))))))))))
    refine mv 1 E (pu (v:= .agg #[a4 R,a4 C,a9 f D j]) E ?_)
    have ao:=hB
    refine kX E E E dP E ao (bq E) E [a4 R,a4 C,a9 f D j] E fun eb dd bj _=>?_
    have ai:Upd g w eb:=Upd.newU Z bj cd
    refine a7 (aW (aV [.agg #[a4 R,a4 C,a9 f D j]] E ⟨⟨_,rfl,gH dP dd [a4 R,a4 C,a9 f D j] E (bq E) rfl⟩,i3⟩ ?_))
    exact⟨_,_,_,_,rfl,(U.updT ao bj (cT (U.own.choose_spec) ao (by decide))),ai,(ae.upd bj (by omega) (fun p hp=>by have:=bd p hp;omega)),ci⟩
theorem LB {TA:Option a8}{nv:aC}(hR:Rdr w g TA tn tc en ts i nv)(hR':R≤64)(hC:C≤64)(hzl:([]:List Int).length=R*C)(hts:ts.drop i=f6 (aT 10) R C []++rst):aU aG 21 #[a1 g 0] w (fun e w'=>∃AA an ac q,e= .returned (.agg #[a4 R,a4 C,a9 AA an ac])∧Lz none 1048576 w.heap.size w' w.heap.size AA an ac []∧Upd g w w'∧Rdr w' g TA tn tc en ts q nv∧ts.drop q=rst):=by
 refine bJ Tryz.func21 E (n:=85) E (bq E) (args:= [a1 g 0]) ?_
 have ec:=hR.hb.lt
 have fh:=hR.le
 have ej:=hR.lim
 have fd:=hR.len
 have ax:∀p,TA=some p→p.block<g:=hR.lt
 refine bH [(0,a1 g 0)] ⟨rfl,i3⟩ (sr (eK E (z:= .agg #[I0,I0,S0]) (vs:= [I0,I0,S0]) (fun _=>by kernel_rfl) E fun g1 v2 nb=>?_))
 have au:=nb.bk
 have bw:w.heap.size≤g1:=by rw [←nb.at_];exact (Upd.refl g w).size
 have q6:g<g1:=by rw [←nb.at_];exact hR.hb.lt
 have e3:=nb.ext
 clear nb
 have cf:Upd g w v2:=(Upd.refl g w).then_ext e3
 refine a7 (sr (mv 1 E (bC E E (vs:= [a1 g 0]) (by kernel_rfl) (by decide) (BO (hR.ext e3)) ?_)))
 rintro _ v7 ⟨_,rfl,r9,e8⟩
 refine bB ?_
 have bu:Upd g w v7:=cf.then_ext e8
 obtain⟨_,rfl⟩:=r9
 refine mv 1 E (a7 (aD ?_))
 obtain⟨cr,cu,_⟩:=hZ (show ts.drop i=(3,[91])::((1,aT 10 R)::(3,[58])::(1,aT 10 C)::(3,[93])::rst) by rw [hts];rfl)
 obtain⟨ai,cb,_⟩:=hZ cu
 obtain⟨aj,bg,_⟩:=hZ cb
 obtain⟨cj,bv,_⟩:=hZ bg
 obtain⟨dm,co,_⟩:=hZ bv
 have dl:i8 (ts[i+1+1]?) 3 [58]=true:=by rw [aj];rfl
 have ep:=m0 (m:=R)
 have fe:=m0 (m:=C)
 refine aE (mv 1 E ?_)
 have ei:=(hR.ext (e3.t e8)).hb
 refine bC E E (vs:= [a1 g 0,.string (aB ([91]))]) (by kernel_rfl) (by decide) (pB (hR.ext (e3.t e8)) (by rw [cr];rfl)) ?_
 rintro _ ci ⟨_,rfl,eb,ah,o⟩
 refine bB ?_
 have br:Upd g w ci:=bu.trans ah
 obtain rfl:=eb
 refine a7 (aD (sr (mv 1 E (bC E E (vs:= [a1 g 0,I0,a4 1,.string (aB ([]))]) (by kernel_rfl) (by decide) (gJ o (b:=true) (by rw [dF,ai];rfl)) ?_))))
 rintro _ ce ⟨_,rfl,da,D⟩
 refine bB ?_
 have bj:Upd g w ce:=br.then_ext D
 obtain rfl:=da
 refine mv 2 E (bC E E (vs:= [a1 g 0,a4 1,a4 3,.string (aB ([58]))]) (by kernel_rfl) (by decide) (gJ (o.ext D) (b:=true) dl) ?_)
 rintro _ du ⟨_,rfl,de,I⟩
 refine bB ?_
 have aw:Upd g w du:=bj.then_ext I
 obtain rfl:=de
 refine pu (v:= gx) E (a7 (b8 E (sr (mv 1 E ?_))))
 have el:=(o.ext (D.t I)).hb
 refine bC E E (vs:= [a1 g 0]) (by kernel_rfl) (by decide) (by have h:=nN (o.ext (D.t I)) ai (gK (R)) (by omega);rw [mU] at h;exact h.mono (RG.imp (WR.imp aw.size))) ?_
 rintro _ ef ⟨_,rfl,dg,Y,V⟩
 refine bB ?_
 have bi:Upd g w ef:=aw.trans Y
 obtain⟨dy,dw,dt,rfl,cd,cm⟩:=dg
 refine bC E E (vs:= [a9 dy dw dt]) (by kernel_rfl) (by decide) (BL cm cd (by omega)) ?_
 rintro _ dx ⟨_,rfl,cx,L⟩
 refine bB ?_
 have dr:Upd g w dx:=bi.then_ext L
 obtain rfl:=cx
 refine mv 1 E (a7 (sr (mv 1 E ?_)))
 have em:=(V.ext L).hb
 refine bC E E (vs:= [a1 g 0,.string (aB ([58]))]) (by kernel_rfl) (by decide) (pB (V.ext L) (by rw [aj];rfl)) ?_
 rintro _ bf ⟨_,rfl,bo,ae,U⟩
 refine bB ?_
 have az:Upd g w bf:=dr.trans ae
 obtain rfl:=bo
 refine a7 (sr (mv 1 E ?_))
 have eh:=U.hb
 refine bC E E (vs:= [a1 g 0]) (by kernel_rfl) (by decide) (by have h:=nN U cj (gK (C)) (by omega);rw [mU] at h;exact h.mono (RG.imp (WR.imp az.size))) ?_
 rintro _ cv ⟨_,rfl,ea,aa,W⟩
 refine bB ?_
 have bm:Upd g w cv:=az.trans aa
 obtain⟨ck,dz,ch,rfl,bz,df⟩:=ea
 refine bC E E (vs:= [a9 ck dz ch]) (by kernel_rfl) (by decide) (BL df bz (by omega)) ?_
 rintro _ bh ⟨_,rfl,dh,F⟩
 refine bB ?_
 have ar:Upd g w bh:=bm.then_ext F
 obtain rfl:=dh
 refine mv 1 E (a7 (sr (mv 1 E ?_)))
 have eg:=(W.ext F).hb
 refine bC E E (vs:= [a1 g 0,.string (aB ([93]))]) (by kernel_rfl) (by decide) (pB (W.ext F) (by rw [dm];rfl)) ?_
 rintro _ dd ⟨_,rfl,ee,ab,O⟩
 refine bB ?_
 have X:Upd g w dd:=ar.trans ab
 obtain rfl:=ee
 refine a7 (aD (aD ?_))
 have cz:R*C=0:=hzl.symm
 refine aE (mv 1 E (aA E E E false (fH (a:=R) (b:=64) E E) (mv 2 E (aA E E E false (fH (a:=C) (b:=64) E E) (pu (v:= ik) E (a7 (aI E (aY (aJ (sr (mv 4 E (bF E E E ((R*C:Nat):Int) (lK (a:=R) (b:=C) E E) (t7 (k:=R*C) none 1048576 w.heap.size E E E fun f aq j r Z=>?_)))))))))))))
 have fb:g<f:=by rw [←j];exact O.hb.lt
 have ew:g1<f:=by rw [←j];exact (((((((((au.ext e8).vN ah).ext (D.t I)).vN Y).ext L).vN ae).vN aa).ext F).vN ab).lt
 have ba:f≤aq.heap.size:=by have:=(r.block _ E).2;exact Nat.le_of_lt this
 have M:w.heap.size≤f:=by rw [←j];exact X.size
 clear j
 have ay:Upd g w aq:=X.then_ext Z
 have cg:=r.block
 refine pu (v:= .agg #[a4 R,a4 C,a9 (some ⟨f,0,none⟩) (R*C) (R*C)]) E ?_
 have H:=((((((((((au.ext e8).vN ah).ext (D.t I)).vN Y).ext L).vN ae).vN aa).ext F).vN ab).ext Z)
 refine kX E E E dP E H (bq E) E [a4 R,a4 C,a9 (some ⟨f,0,none⟩) (R*C) (R*C)] E fun ao ak ag _=>?_
 have am:Upd g w ao:=Upd.newU ay ag bw
 refine a7 (aW (bO (aV [.agg #[a4 R,a4 C,a9 (some ⟨f,0,none⟩) (R*C) (R*C)]] E ⟨⟨_,rfl,gH dP ak [a4 R,a4 C,a9 (some ⟨f,0,none⟩) (R*C) (R*C)] E (bq E) rfl⟩,i3⟩ ?_)))
 have av:Lz none 1048576 w.heap.size ao w.heap.size (some ⟨f,0,none⟩) (R*C) (R*C) []:=by have h:=((r.updT H ag (cT (r.own.choose_spec) H (by decide)))).mono (aZ _) (aZ _) (M);rw [show cB (R*C) (0:Int)= [] by rw [cz];rfl] at h;exact h
 exact⟨_,_,_,_,rfl,av,am,((O.ext Z).upd ag (by omega) (fun p hp=>by have:=ax p hp;omega)),co⟩
theorem BM {TA:Option a8}{nv:aC}(hR:Rdr w g TA tn tc en ts i nv)(hR':R≤64)(hC:C≤64)(hzl:zs.length=R*C)(hts:ts.drop i=f6 (aT 10) R C zs++rst)(hK:∀z,z∈zs→ln z≤1048576):aU aG 21 #[a1 g 0] w (fun e w'=>∃AA an ac q,e= .returned (.agg #[a4 R,a4 C,a9 AA an ac])∧Lz none 1048576 w.heap.size w' w.heap.size AA an ac zs∧Upd g w w'∧Rdr w' g TA tn tc en ts q nv∧ts.drop q=rst):=by
 by_cases f:zs= []
 ·subst f;exact LB hR hR' hC hzl hts
 ·exact L9 hR hR' hC hzl hts f hK
theorem OI (p:a8)(w:a6):CallsD aG 39 #[.pointer (some p)] .returning w fun e u' w'=>e= .returned (.tuple #[])∧u'= .returning∧w'=w:=by
 refine callsD_of_wpS Tryz.func39 E fun c₀ cs hu=>?_
 apply wpS_seq
 apply wpS_region
 simp [wpOpsS,go_sem,recoverD,hu,Tryz.ntmps39,Exit.thenS]
 apply wpS_seq
 apply wpS_region
 simp [wpOpsS,go_sem,recoverD,hu,Exit.thenS]
 refine wpS_cond (t:=false) (by simp [Act.eval,Array.replicate]) ?_
 simp only [Bool.false_eq_true,if_false]
 refine wpS_of_wp (wp_skip ?_)
 cases c₀
 simp_all [bodyPostS,results,Tryz.results39]
theorem BW {k:FuncId}{Q:a6→a6→Prop}(hent:∀(args:Array aC) (w:a6),(callFunc k args).run aG w= .ok (.enter k args) w)(hf:∀w1,Ext w w1→aU aG k (fs++cs) w1 (fun e w2=>e= .returned (.tuple #[])∧Q w1 w2))(hq:∀w1 w2 go vs,Ext w w1→Q w1 w2→w.heap.size≤go→Bk w1 go 56 vs→Bk w2 go 56 vs):aU aG 19 #[.func (.func k) fs cs] w (fun e w'=>e= .returned (.agg #[a4 0,a4 0])∧∃w1 w2 go,Ext w w1∧Q w1 w2∧w.heap.size≤go∧go<w1.heap.size∧Bk w2 go 56 [a4 0,a4 0]∧Upd go w2 w'):=by
 have hmf:∀(fn:Fn) (first cap:Array aC) (w:a6),(Instr.makeFunc fn first cap).run aG w= .ok (.func fn first cap) w:=fun _ _ _ _=>rfl
 go_enter_defers Tryz.func19,Tryz.ntmps19
 go_wp2
 have hb1:=Bk.new w 56 [a4 0,a4 0]
 have e1:Ext w (w.alloc (.cells #[a4 0,a4 0] 56)):=(Ext.refl w).alloc _
 refine (hf _ e1).mono ?_
 rintro _ w2 ⟨rfl,hQ⟩
 have hb2:=hq _ w2 w.heap.size _ e1 hQ (aZ _) hb1
 obtain⟨c0,c1,f0,f1⟩:=hb2.two
 have hb3:=(hb2.set 0 (a4 0)).set 1 (a4 0)
 have hu:Upd w.heap.size w2 ((w2.setCell ⟨w.heap.size,0,none⟩ (a4 0)).setCell ⟨w.heap.size,1,none⟩ (a4 0)):=((Upd.refl _ _).setCell 0 _).setCell 1 _
 obtain⟨d0,d1,_,_⟩:=hb3.two
 show _
 go_wp2
 refine leaves_cons (f:=39) (args:= #[a1 w.heap.size 0]) (by simp) (by simp [go_sem]) ?_
 refine (OI ⟨w.heap.size,0,none⟩ _).mono ?_
 rintro e u' w'' ⟨rfl,rfl,rfl⟩
 have hl:=gH (P:=aG) (off:=0) vY hb3 [a4 0,a4 0] E (Nat.le_of_ble_eq_true E) rfl
 refine⟨.agg #[a4 0,a4 0],?_,rfl,_,_,_,e1,hQ,aZ _,hb1.lt,hb2,hu⟩
 simp [results,Tryz.results19]
 have ha:∀w9:a6,(asAddr (a1 w.heap.size 0)).run aG w9= .ok ⟨w.heap.size,0,none⟩ w9:=fun _=>rfl
 rw [ha,Result.andThen_ok]
 exact hl
theorem xU:∀{l:List Pc}{t:List Nat},okL l t→∀x,x∈dO l→∀b,b∈x.2→b<128
 | [],_,_,x,hx,_,_=>absurd hx (by simp [dO])
 | p::l,t,h,x,hx,b,hb=>by
  rcases eQ.1 hx with hx | hx
  ·cases p with
   | blank r=>exact absurd hx (by simp [Pc.tk])
   | num ds=>rw [Pc.tk,fT] at hx;subst hx;have:=jJ.1 (h.1.2.1 b hb);omega
   | nam ls=>rw [Pc.tk,fT] at hx;subst hx;exact (h.1.2.2.1 b hb).1
   | mark r=>rw [Pc.tk,fT] at hx;subst hx;rw [fT.1 hb];exact uP h.1
   | com cs=>exact absurd hx (by simp [Pc.tk])
  ·exact xU h.2 x hx b hb
def P1 (b:Nat)(ts:List Tk)(v:aC)(w:a6):Prop:=∃g TA tn tc en,v= .tuple #[a1 g 0,a4 0,a4 0]∧b≤g∧Rdr w g TA tn tc en ts 0 (a9 none 0 0)
def DR (g gm R C:Nat)(zs:List Int)(w w':a6):Prop:=Up2 g gm w w'∧∃AA an ac,Bk w' gm 24 [a4 R,a4 C,a9 AA an ac]∧Lz none 1048576 w.heap.size w' w.heap.size AA an ac zs
theorem Bk.neT (h:Bk w g t vs)(hk:Bk w k T us)(hT:t≠T):g≠k:=fun e=>by
 subst e
 unfold Bk at h hk
 rw [h] at hk
 injection hk with h1
 injection h1 with _ h2
 exact hT h2
theorem HJ {α:Type}{zs:List α}{x:α}{r:List α}(h:zs.length=R*C)(hr:r∈dC R C zs)(hx:x∈r):x∈zs:=by
 rw [←oR h];exact List.mem_flatten.2 ⟨r,hr,hx⟩
theorem zY (h:zs.length=R*C)(hR:R≤64)(hC:C≤64)(hK:∀z,z∈zs→ln z≤1048576):∀ds,Pc.num ds∈gY (aT 10) R C zs→ds.length≤67108866:=fun ds hd=>by
 have ent:∀z,z∈zs→Pc.num ds∈hJ (aT 10) z→ds.length≤67108866:=fun z hz hm=>by
  have h1:=oG (b:=10) (show (wd z.natAbs).length≤1048576 from hK z hz)
  unfold hJ at hm
  split at hm
  ·simp at hm;subst hm;omega
  ·simp at hm;subst hm;omega
 have row:∀r:List Int,(∀z,z∈r→z∈zs)→Pc.num ds∈gE (aT 10) r→ds.length≤67108866:=fun r=>by
  induction r with
  | nil=>intro _ hm;exact absurd hm (by simp [gE,jn])
  | cons z r ih=>
   intro hz hm
   cases r with
   | nil=>exact ent z (hz z (by simp)) hm
   | cons y r=>
    rcases eQ.1 (show Pc.num ds∈(hJ (aT 10) z++ [.blank 32])++gE (aT 10) (y::r) from hm) with hm | hm
    ·rcases eQ.1 hm with hm | hm
     ·exact ent z (hz z (by simp)) hm
     ·simp at hm
    ·exact ih (fun x hx=>hz x (by simp only [i6] at hx⊢;exact cA hx)) hm
 have grid:∀l:List (List Int),(∀r,r∈l→∀z,z∈r→z∈zs)→Pc.num ds∈jL (aT 10) l→ds.length≤67108866:=fun l=>by
  induction l with
  | nil=>intro _ hm;exact absurd hm (by simp [jL,jn])
  | cons r l ih=>
   intro hz hm
   cases l with
   | nil=>exact row r (hz r (by simp)) hm
   | cons y l=>
    rcases eQ.1 (show Pc.num ds∈(gE (aT 10) r++ [.mark 59,.blank 32])++jL (aT 10) (y::l) from hm) with hm | hm
    ·rcases eQ.1 hm with hm | hm
     ·exact row r (hz r (by simp)) hm
     ·simp at hm
    ·exact ih (fun x hx=>hz x (by simp only [i6] at hx⊢;exact cA hx)) hm
 unfold gY at hd
 split at hd
 ·have h1:=m0 (m:=R);have h2:=m0 (m:=C)
  simp at hd
  rcases hd with hd | hd <;> (subst hd;omega)
 ·rcases eQ.1 hd with hd | hd
  ·rcases eQ.1 hd with hd | hd
   ·simp at hd
   ·exact grid _ (fun r hr z hz=>HJ h hr hz) hd
  ·simp at hd
theorem JI (h:ZF w A n cap K zs):∀z,z∈zs→ln z≤K:=fun z f=>by
 obtain⟨i,hi⟩:=List.mem_iff_getElem?.1 f
 have e:=h.ln i
 rw [bE,hi] at e
 exact e
theorem rB (h:zs.length=R*C)(hR:R≤64)(hC:C≤64)(hK:∀z,z∈zs→ln z≤1048576):(bR (aT 10) R C zs).length≤274877931648:=by
 have h1:=J9 (tx:=aT 10) (K:=67108866) h hR hC (fun z e=>by have:=xR (hK z e);omega) (fun m _=>by have:=m0 (m:=m);omega)
 omega
theorem BK {l:List Pc}(hm:Mxl w)(ho:okL l [])(hK:∀ds,Pc.num ds∈l→ds.length≤2147483648)(hl:(aR l).length≤549755813888):aU aG 18 #[.string (aB (bM (aR l)))] w (Gv w (P1 w.heap.size (dO l))):=by
 refine bJ Tryz.func18 E (n:=30) E (bq E) (args:= [.string (aB (bM (aR l)))]) (bH [(0,.string (aB (bM (aR l))))] ⟨rfl,i3⟩ (sr (mv 3 E (a7 (sr (mv 1 E (cl (vs:= [.string (aB (bM (aR l)))]) aF (BU hm ho hK hl) E (by kernel_rfl) fun _ _ V _ F=>?_)))))))
 obtain⟨_,_,_,rfl,⟨TA,tn,tc,rfl,cs,L,I,O⟩,rfl,rfl⟩:=V
 refine mv 1 E (pu (v:= a9 TA tn tc) E (pu (v:= a4 0) E (pu (v:= a4 0) E (mv 3 E (a7 (aD (sr (mv 1 E (aA E E E false (by decide) (a7 (aI E (aY (aJ ?_)))))))))))))
 refine sr (mv 1 E (cl (vs:= [.string (aB (bM (aR l)))]) F (M5 ho.rn hl) E (by kernel_rfl) fun _ _ X M j=>?_))
 obtain⟨_,_,rfl,rfl,rfl⟩:=X
 refine mv 1 E (pu (v:= a4 (((aR l).length:Nat):Int)) E (pu (v:= a4 0) E (mv 2 E (a7 (sr (mv 2 E (bF E E E ((((aR l).length)+1:Nat):Int) (d6 (a:=(aR l).length) (b:=1) E E) (pu (v:= .agg #[a9 TA tn tc,I0,a4 ((((aR l).length)+1:Nat):Int),I0,S0]) E (iE E E (vs:= [a9 TA tn tc,I0,a4 ((((aR l).length)+1:Nat):Int),I0,S0]) E fun q D nb=>?_)))))))))
 have h:=nb.bk
 have o:w.heap.size≤q:=by rw [←nb.at_];exact j.size
 have e:∀p:a8,TA=some p→p.block<q:=fun p r=>by have:=(((O.ext M)).block p r).2;have:=nb.at_;omega
 have U:∀p:a8,TA=some p→p.block≠q:=fun p r=>Nat.ne_of_lt (e p r)
 have f:=nb.ext
 clear nb
 have H:=j.trans f
 refine mv 3 E (a7 (aW (aV [a1 q 0,I0,I0] E ⟨rfl,rfl,rfl,i3⟩ ?_)))
 have Z:TokO D _ TA tn tc (dO l):=⟨cs,L,I,(O.ext (M.t f))⟩
 have Y:=tJ ho
 exact⟨_,rfl,⟨_,_,_,_,_,rfl,o,⟨h,Z.tv,e,fun x W b hb=>kQ (xU ho x W b hb) (by decide),cE _,by omega⟩⟩,H⟩
theorem MD {TA:Option a8}{nv:aC}(hR:Rdr w g TA tn tc en ts i nv){gp gm:Nat}(hpB:Bk w gp 52 [a1 g 0])(hgm:g<gm)(hmB:Bk w gm 24 [a4 0,a4 0,a9 none 0 0])(hR':R≤64)(hC:C≤64)(hzl:zs.length=R*C)(hK:∀z,z∈zs→ln z≤1048576)(hts:ts.drop i=f6 (aT 10) R C zs++ []):aU aG 20 #[a1 gp 0,a1 gm 0] w (fun e w'=>e= .returned (.tuple #[])∧DR g gm R C zs w w'):=by
 refine bJ Tryz.func20 E (n:=9) E (bq E) (args:= [a1 gp 0,a1 gm 0]) ?_
 have ai:=hR.hb.lt
 have aw:=hR.le
 have ak:=hR.lim
 have ap:=hR.len
 have I:∀p,TA=some p→p.block<g:=hR.lt
 have O:=hpB.lt
 have M:=hmB.lt
 have ao:gp≠g:=hpB.neT hR.hb (by decide)
 have av:gm≠g:=hmB.neT hR.hb (by decide)
 have ar:gp≠gm:=hpB.neT hmB (by decide)
 refine bH [(0,a1 gp 0),(1,a1 gm 0)] ⟨rfl,rfl,i3⟩ (sr (aH E E (aS (fun _=>by kernel_rfl) hpB E) ?_))
 have ax:=hR.hb
 refine bC E E (vs:= [a1 g 0]) (by kernel_rfl) (by decide) (BM hR hR' hC hzl hts hK) ?_
 rintro _ v2 ⟨q,Y,U,q6,rfl,f,u8,Z,L⟩
 refine bB ?_
 have aj:∀p:a8,q=some p→p.block≠gp:=fun p H=>by have:=(f.block p H).1;have:=hpB.lt;omega
 have am:∀p:a8,q=some p→p.block≠gm:=fun p H=>by have:=(f.block p H).1;have:=hmB.lt;omega
 replace f:=f.mono (aZ _) (Up2.refl g gm w).size (Up2.refl g gm w).size
 have ae:Up2 g gm w v2:=Up2.updU (Up2.refl g gm w) u8 (by omega)
 have aa:=f.block
 have j:=(hmB.vN u8)
 refine kX E E E dP E j (bq E) E [a4 R,a4 C,a9 q Y U] E fun ag F o _=>?_
 have W:Up2 g gm w ag:=Up2.updU ae o (by omega)
 refine a7 (sr (aH E E (aS (fun _=>by kernel_rfl) ((hpB.vN u8).vN o) E) ?_))
 have D:tn≤q6:=by have h1:=List.drop_eq_nil_iff.1 L;omega
 refine bC E E (vs:= [a1 g 0]) (by kernel_rfl) (by decide) (by have h:=rN (Z.upd o (by omega) (fun p H=>by have:=I p H;omega));rw [decide_eq_true D] at h;exact h) ?_
 rintro _ ab ⟨_,rfl,X,r⟩
 refine bB ?_
 have V:Up2 g gm w ab:=W.then_ext r
 obtain rfl:=X
 refine pu (v:= ik) E (a7 (aI E (aY (jN [] E i3 ?_))))
 exact⟨rfl,V,_,_,_,(F.ext r),((f.updT j o (cT (f.own.choose_spec) j (by decide))).ext r)⟩
theorem C2 (hm:Mxl w)(hR':R≤64)(hC:C≤64)(hzl:zs.length=R*C)(hK:∀z,z∈zs→ln z≤1048576):aU aG 8 #[.string (aB (bR (aT 10) R C zs))] w (Gv w (T2 (MQ ((R:Nat):Int) ((C:Nat):Int) (LE none 1048576 w.heap.size w.heap.size (R*C) zs)) (Is (a4 0)))):=by
 have df:=rB hzl hR' hC hK
 refine bJ Tryz.func8 E (n:=32) E (bq E) (args:= [.string (aB (bR (aT 10) R C zs))]) (bH [(0,.string (aB (bR (aT 10) R C zs)))] ⟨rfl,i3⟩ (sr (al [I0,I0,S0] aF (fun _=>by kernel_rfl) E fun g1 _ ah bv _ ao=>(mv 1 E (a7 (sr (mv 1 E (bC E E (vs:= [.string (aB (bR (aT 10) R C zs))]) (by kernel_rfl) (by decide) (by have h:=BK (hm.ext ao) (l:=gY (aT 10) R C zs) (zX gK) (fun ds hd=>by have:=zY hzl hR' hC hK ds hd;omega) (by rw [rC];omega);rw [rC,rP (m8 gK)] at h;exact h) ?_))))))))
 rintro _ _ ⟨_,rfl,r8,e7⟩
 refine bB ?_
 have ar:=ao.trans e7
 obtain⟨g,TA,tn,tc,en,rfl,av,U⟩:=r8
 have bw:w.heap.size≤g:=aN ao.size av
 have q9:g1<g:=cU ah.lt av
 have cj:=U.lim
 have da:=U.len
 have X:∀p,TA=some p→p.block<g:=U.lt
 refine mv 1 E (pf g 0 E (pu (v:= a4 0) E (pu (v:= a4 0) E (eK E (z:= .pointer none) (vs:= [.pointer none]) (fun _=>by kernel_rfl) E fun W _ nb=>?_))))
 have bf:=nb.bk
 have ap:w.heap.size≤W:=by rw [←nb.at_];exact ar.size
 have cm:g<W:=by rw [←nb.at_];exact U.hb.lt
 have O:=nb.ext
 clear nb
 have bu:=ar.trans O
 refine fO E E E (fun _=>by kernel_rfl) E bf (bq E) E [a1 g 0] E fun _ I M _=>?_
 have bo:=M.ext bu ap
 refine mv 2 E (a7 (aD (sr (mv 1 E (aA E E E false (by decide) (a7 (aI E (aY (aJ (sr (jT [I0,I0,S0] bo I.lt (fun _=>by kernel_rfl) E fun F _ ab ay _ r bg=>(a7 (aD ?_)))))))))))))
 refine aE (pu (v:= .func (.func 20) #[] #[a1 W 0,a1 F 0]) E ?_)
 have dg:=(((ah.ext (e7.t O)).vN M).ext r).lt
 have cr:=(((U.ext O).upd M (by omega) (fun p V=>by have:=X p V;omega)).ext r).hb.lt
 have de:=(I.ext r).lt
 have co:=ab.lt
 have bm:F≠g:=by omega
 refine bC E E (vs:= [.func (.func 20) #[] #[a1 W 0,a1 F 0]]) (by kernel_rfl) (by decide) (BW (k:=20) (fs:= #[]) (cs:= #[a1 W 0,a1 F 0]) (Q:=DR g F R C zs) (fun _ _=>by kernel_rfl) (fun w1 e1=>MD ((((U.ext O).upd M (by omega) (fun p V=>by have:=X p V;omega)).ext r).ext e1) ((I.ext r).ext e1) (by omega) (ab.ext e1) hR' hC hzl hK (by rw [iR,fA];exact zW (aT 10) hzl)) (fun w1 _ go vs e1 hq _ hb=>hq.1.bk hb (by omega) (by omega))) ?_
 rintro _ _ ⟨rfl,_,_,aj,Y,⟨aq,o,D,L,Z,e⟩,am,_,f,j⟩
 refine bB ?_
 have cb:∀p:a8,o=some p→p.block≠aj:=fun p V=>by have:=(e.block p V).1;omega
 have ak:=bg.trans Y
 have ck:∀p:a8,o=some p→p.block≠g1:=fun p V=>by have:=(e.block p V).1;have:=(((ah.ext (e7.t O)).vN M).ext (r.t Y)).lt;omega
 have cg:∀p:a8,o=some p→p.block≠W:=fun p V=>by have:=(e.block p V).1;have:=(I.ext (r.t Y)).lt;omega
 have ch:∀p:a8,o=some p→p.block≠F:=fun p V=>by have:=(e.block p V).1;have:=(ab.ext Y).lt;omega
 replace e:=e.mono (aZ _) ak.size ak.size
 have ce:=aq.toExt ak bw ay
 have bz:=e.block
 have ba:w.heap.size≤aj:=aN bg.size am
 have bh:=j.ext ce ba
 refine eK E (z:= .agg #[I0,I0]) (vs:= [I0,I0]) (fun _=>by kernel_rfl) E fun ag _ nb=>?_
 have q:=nb.bk
 have ax:w.heap.size≤ag:=by rw [←nb.at_];exact bh.size
 have cv:F<ag:=by rw [←nb.at_];exact (Z.updN j (by omega)).lt
 have cf:∀p:a8,o=some p→p.block≠ag:=fun p V=>by have:=((e.updT f j (cT (e.own.choose_spec) f (by decide)))).block p V;have:=nb.at_;omega
 have H:=nb.ext
 clear nb
 have br:=bh.trans H
 refine so vY q [I0,I0] br ax E E E E fun _ aw ae bd=>(a7 (aD (sr (pf ag 1 E (aH E E (aS (fun _=>by kernel_rfl) aw E) (a7 (bI (sr (aA E E E true (by decide) (mv 1 E (a7 (b8 E (aD ?_)))))))))))))
 refine aE (lo dP (((Z.updN j (by omega)).ext H).vN ae) [a4 R,a4 C,a9 o D L] E E E ?_)
 have aa:=((((Up2.bk aq (((ah.ext (e7.t O)).vN M).ext (r.t Y)) (by omega) (by omega)).updN j (by omega)).ext H).vN ae)
 refine so dP aa [a4 R,a4 C,a9 o D L] bd bv E E E E fun _ au cd az=>(mv 1 E (a7 (aW (bZ (bO (aV [.agg #[a4 R,a4 C,a9 o D L],I0] E ⟨⟨_,rfl,gH dP au [a4 R,a4 C,a9 o D L] E (bq E) rfl⟩,rfl,i3⟩ ?_))))))
 have ai:=((((e.updT f j (cT (e.own.choose_spec) f (by decide))).ext H).updT q ae (cT (((e.updT f j (cT (e.own.choose_spec) f (by decide))).ext H).own.choose_spec) q (by decide))).updT aa cd (cT ((((e.updT f j (cT (e.own.choose_spec) f (by decide))).ext H).updT q ae (cT (((e.updT f j (cT (e.own.choose_spec) f (by decide))).ext H).own.choose_spec) q (by decide))).own.choose_spec) aa (by decide)))
 have cz:=ai.len
 obtain rfl:D=R*C:=by omega
 exact⟨_,rfl,⟨_,_,rfl,⟨_,rfl,_,_,rfl,ai⟩,rfl⟩,az⟩
theorem Signs.updG (h:Signs w)(u:Upd g w w')(hg:1≠g):Signs w':=fun d e=>u.cell (h d e) hg
def nJ (s:List Nat):List aC:= [a4 3,.string (aB s),a9 none 0 0]
def nW (w:a6)(g:Nat)(TA:Option a8)(tn tc:Nat)(en:Int)(ts:List Tk)(s:List Nat)(R:aC→a6→Prop)(e:Ending)(w':a6):Prop:=
 ∃v NA nc q,e= .returned v∧R v w'∧Own w' w.heap.size 40 3 NA 1 nc (nJ s)∧Upd g w w'∧Rdr w' g TA tn tc en ts q (a9 NA 1 nc)∧ts.drop q= []
def P9 (b:Nat)(v:aC)(w:a6):Prop:=∃KA kc,v= a9 KA 1 kc∧Own w b 3 1 KA 1 kc [a4 0]
def gF (s:List Nat)(KA:Option a8)(kc:Nat):List aC:= [a4 3,.string (aB s),a9 none 0 0,a4 12,.string (aB [112,114,105,110,116]),a9 KA 1 kc]
def DS (g:Nat)(TA:Option a8)(tn tc:Nat)(en:Int)(ts:List Tk)(s:List Nat)(w w':a6):Prop:=
 Upd g w w'∧∃NA nc KA kc q,Rdr w' g TA tn tc en ts q (a9 NA 2 nc)∧Own w' w.heap.size 40 3 NA 2 nc (gF s KA kc)∧Own w' w.heap.size 3 1 KA 1 kc [a4 0]
theorem uL {tx:Nat→List Nat}(h:zs.length=R*C):(f6 tx R C zs++ []).head?=some (3,[91]):=by
 by_cases e:zs= []
 ·unfold f6;rw [if_pos e];rfl
 ·obtain⟨_,_,f,_⟩:=zU (tx:=tx) h e
  rw [f];rfl
theorem LI {TA:Option a8}(hR:Rdr w g TA tn tc en ts i (a9 none 0 0)):aU aG 49 #[a1 g 0,a4 op,.string (aB tx),a9 A kn kc] w (fun e w'=>∃NA nc,RG w g TA tn tc en ts i (a9 NA 1 nc) (Is (a4 0)) e w'∧Own w' w.heap.size 40 3 NA 1 nc [a4 op,.string (aB tx),a9 A kn kc]):=by
 refine bJ Tryz.func49 E (n:=28) E (bq E) (args:= [a1 g 0,a4 op,.string (aB tx),a9 A kn kc]) ?_
 have W:=hR.hb.lt
 have ak:=hR.le
 have ab:=hR.lim
 have ai:=hR.len
 have I:∀p,TA=some p→p.block<g:=hR.lt
 refine bH [(0,a1 g 0),(1,a4 op),(2,.string (aB tx)),(3,a9 A kn kc)] ⟨rfl,rfl,rfl,rfl,i3⟩ (sr (mv 1 E (a7 (sr (mv 2 E (pf g 0 E (pf g 4 E (aH E E (aS (fun _=>by kernel_rfl) hR.hb E) (mv 3 E (pu (v:= .agg #[a4 op,.string (aB tx),a9 A kn kc]) E (dN E E (k:=1) (e:=40) [a4 op,.string (aB tx),a9 A kn kc] (fun _=>by kernel_rfl) fun _ v2 nb=>?_)))))))))))
 have aa:=nb.bk
 have Y:=nb.ext
 clear nb
 have H:Upd g w v2:=(Upd.refl g w).then_ext Y
 have h:Own v2 w.heap.size 40 3 none 0 0 []:=Own.nil _ _ _ _
 refine fB E E E xO AX E h H.size [a4 op,.string (aB tx),a9 A kn kc] E (iI aa) E fun Z X v6 L r O=>?_
 have V:Upd g w v6:=Upd.newO H r (fun p D=>(h.block p D).1)
 have ag:=AR O (hR.ext Y).hb.lt
 refine pf g 0 E (pf g 4 E ?_)
 have f:=((hR.ext Y).updO r (fun p D=>by have:=(h.block p D).1;omega) (fun p q D hq=>by have:=(h.block p D).1;have:=I q hq;omega))
 refine fO E E E (fun _=>by kernel_rfl) E f.hb (bq E) E [a9 TA tn tc,a4 i,a4 en,I0,a9 Z (0+1) X] E fun M F o _=>?_
 have j:=f.set o F (by omega)
 have U:Upd g w M:=V.trans o
 refine a7 (sr (mv 1 E (pf g 0 E (pf g 4 E (aH E E (aS (fun _=>by kernel_rfl) j.hb E) (pu (v:= a4 ((0+1:Nat):Int)) E (bF E E E (((0+1)-1:Nat):Int) (kK (a:=0+1) (b:=1) E E) (mv 1 E (a7 (aW (aV [a4 (((0+1)-1:Nat):Int)] E ⟨rfl,i3⟩ ?_)))))))))))
 exact⟨_,_,⟨_,rfl,rfl,U,j⟩,(L.updT f.hb (by decide) o)⟩
theorem LG {TA:Option a8}(hR:Rdr w g TA tn tc en ts i (a9 none 0 0))(hS:Signs w)(hg1:1≠g)(hR':R≤64)(hC:C≤64)(hzl:zs.length=R*C)(hK:∀z,z∈zs→ln z≤1048576)(hts:ts.drop i=f6 (aT 10) R C zs++ []):aU aG 123 #[a1 g 0] w (nW w g TA tn tc en ts (bR (aT 10) R C zs) (Is (a4 0))):=by
 have h:ts[i]?=some (3,[91]):=by rw [rR hts];exact uL hzl
 refine bJ Tryz.func123 E (n:=74) E (bq E) (args:= [a1 g 0]) ?_
 have aw:=hR.hb.lt
 have bu:=hR.le
 have ba:=hR.lim
 have bh:=hR.len
 have bd:∀p,TA=some p→p.block<g:=hR.lt
 refine bH [(0,a1 g 0)] ⟨rfl,i3⟩ (sr (mv 1 E (a7 (aD (bI (sr (mv 1 E (bC E E (vs:= [a1 g 0,I0,a4 1,.string (aB ([]))]) (by kernel_rfl) (by decide) (gJ hR (b:=false) (by rw [dF,h];rfl)) ?_))))))))
 rintro _ v1 ⟨_,rfl,r3,D⟩
 refine bB ?_
 have aq:Upd g w v1:=(Upd.refl g w).then_ext D
 obtain rfl:=r3
 refine mv 1 E (a7 (aI E (sr (mv 1 E (bC E E (vs:= [a1 g 0,I0,a4 2,.string (aB ([]))]) (by kernel_rfl) (by decide) (gJ (hR.ext D) (b:=false) (by rw [dF,h];rfl)) ?_)))))
 rintro _ v4 ⟨_,rfl,r6,I⟩
 refine bB ?_
 have ai:Upd g w v4:=aq.then_ext I
 obtain rfl:=r6
 refine mv 3 E (pu (v:= ik) E (mv 1 E (a7 (aI E (sr (mv 1 E (bC E E (vs:= [a1 g 0,I0,a4 2,.string (aB ([]))]) (by kernel_rfl) (by decide) (gJ (hR.ext (D.t I)) (b:=false) (by rw [dF,h];rfl)) ?_)))))))
 rintro _ v7 ⟨_,rfl,r9,X⟩
 refine bB ?_
 have ah:Upd g w v7:=ai.then_ext X
 obtain rfl:=r9
 refine mv 1 E (a7 (aI E (sr (mv 1 E (bC E E (vs:= [a1 g 0,.string (aB ([40]))]) (by kernel_rfl) (by decide) (lD (hR.ext (D.t (I.t X))) (b:=false) (by rw [h];rfl)) ?_)))))
 rintro _ aa ⟨_,rfl,av,j⟩
 refine bB ?_
 have ag:Upd g w aa:=ah.then_ext j
 obtain rfl:=av
 refine mv 1 E (a7 (aI E (sr (mv 1 E (bC E E (vs:= [a1 g 0,.string (aB ([91]))]) (by kernel_rfl) (by decide) (lD (hR.ext (D.t (I.t (X.t j)))) (b:=true) (by rw [h];rfl)) ?_)))))
 rintro _ ab ⟨_,rfl,aj,r⟩
 refine bB ?_
 have H:Upd g w ab:=ag.then_ext r
 obtain rfl:=aj
 refine mv 1 E (a7 (b8 E (sr (mv 1 E ?_))))
 have az:=(hR.ext (D.t (I.t (X.t (j.t r))))).hb
 refine bC E E (vs:= [a1 g 0]) (by kernel_rfl) (by decide) (BM (hR.ext (D.t (I.t (X.t (j.t r))))) hR' hC hzl hts hK) ?_
 rintro _ au ⟨W,Y,L,_,rfl,e,ao,o,U⟩
 refine bB ?_
 replace e:=e.mono (aZ _) H.size H.size
 have M:Upd g w au:=H.trans ao
 have Z:=e.block
 have q:=e
 have bg:=q.len
 refine bC E E (vs:= [.agg #[a4 R,a4 C,a9 W Y L]]) (by kernel_rfl) (by decide) (pD (hS.updG M hg1) q.zf0 hR' hC (by omega)) ?_
 rintro _ ak ⟨_,rfl,am,F⟩
 refine bB ?_
 have V:Upd g w ak:=M.then_ext F
 obtain⟨_,_,rfl,rfl,rfl⟩:=am
 refine mv 1 E (pu (v:= .string (aB (bR (aT 10) R C zs))) E (pu (v:= a4 0) E (mv 2 E (a7 (sr (mv 2 E ?_))))))
 have ay:=(o.ext F).hb
 refine bC E E (vs:= [a1 g 0,a4 3,.string (aB (bR (aT 10) R C zs)),S0]) (by kernel_rfl) (by decide) (LI (o.ext F) (op:=3)) ?_
 rintro _ ar ⟨_,_,⟨_,rfl,ae,ap,O⟩,f⟩
 refine bB ?_
 replace f:=f.mono V.size
 obtain rfl:=ae
 have ax:Upd g w ar:=V.trans ap
 refine mv 1 E (a7 (aW (bZ (bO (aV [I0] E ⟨rfl,i3⟩ ?_)))))
 exact⟨_,_,_,_,rfl,rfl,f,ax,O,U⟩
theorem L6 {TA:Option a8}(hR:Rdr w g TA tn tc en ts i (a9 none 0 0))(hS:Signs w)(hg1:1≠g)(hR':R≤64)(hC:C≤64)(hzl:zs.length=R*C)(hK:∀z,z∈zs→ln z≤1048576)(hts:ts.drop i=f6 (aT 10) R C zs++ []):aU aG 115 #[a1 g 0] w (nW w g TA tn tc en ts (bR (aT 10) R C zs) (Is (a4 0))):=by
 refine bJ Tryz.func115 E (n:=13) E (bq E) (args:= [a1 g 0]) ?_
 have M:=hR.hb.lt
 have Z:=hR.le
 have U:=hR.lim
 have X:=hR.len
 have W:∀p,TA=some p→p.block<g:=hR.lt
 refine bH [(0,a1 g 0)] ⟨rfl,i3⟩ (sr (mv 1 E (a7 (sr (mv 1 E ?_)))))
 have aa:=hR.hb
 refine bC E E (vs:= [a1 g 0]) (by kernel_rfl) (by decide) (LG hR hS hg1 hR' hC hzl hK hts) ?_
 rintro _ V ⟨_,D,q,q5,rfl,Y,h,u8,O,f⟩
 refine bB ?_
 replace h:=h.mono (Upd.refl g w).size
 have j:Upd g w V:=(Upd.refl g w).trans u8
 have r:=nQ f
 obtain rfl:=Y
 refine mv 1 E (a7 (aD (bI ?_)))
 refine dJ (T:=a6) (fun wr=> [(0,a1 g 0),(3,a4 0)]) (fun wr=>wr) (fun wr=>(Upd g w wr)∧(Rdr wr g TA tn tc en ts q5 (a9 D 1 q))∧(Own wr w.heap.size 40 3 D 1 q (nJ (bR (aT 10) R C zs)))) (fun wr=>0)
  (V:a6) ⟨j,O,h⟩ E ⟨rfl,rfl,i3⟩ ?_
 rintro wr ⟨j,F,e⟩
 refine d9 [(0,a1 g 0),(3,a4 0)] wr E ⟨rfl,rfl,i3⟩ (aD (sr (mv 1 E (bC E E (vs:= [a1 g 0,.string (aB ([39]))]) (by kernel_rfl) (by decide) (jM F (by rw [r];rfl)) ?_))))
 rintro _ L ⟨_,rfl,H,o⟩
 refine bB ?_
 have I:Upd g w L:=j.then_ext o
 obtain rfl:=H
 refine a7 (aI E (dA (d7 (dG (d8 (aJ (sr (mv 2 E (a7 (aW (aV [I0] E ⟨rfl,i3⟩ ?_)))))))))))
 exact⟨_,_,_,_,rfl,rfl,(e.ext o),I,(F.ext o),f⟩
theorem LD {TA:Option a8}(hR:Rdr w g TA tn tc en ts i (a9 none 0 0))(hS:Signs w)(hg1:1≠g)(hR':R≤64)(hC:C≤64)(hzl:zs.length=R*C)(hK:∀z,z∈zs→ln z≤1048576)(hts:ts.drop i=f6 (aT 10) R C zs++ []):aU aG 100 #[a1 g 0] w (nW w g TA tn tc en ts (bR (aT 10) R C zs) (Is (a4 0))):=by
 have V:ts[i]?=some (3,[91]):=by rw [rR hts];exact uL hzl
 refine bJ Tryz.func100 E (n:=29) E (bq E) (args:= [a1 g 0]) ?_
 have W:=hR.hb.lt
 have ai:=hR.le
 have Z:=hR.lim
 have ag:=hR.len
 have aa:∀p,TA=some p→p.block<g:=hR.lt
 refine bH [(0,a1 g 0)] ⟨rfl,i3⟩ (sr (mv 1 E (a7 (sr (mv 1 E (a7 (aD (bI ?_))))))))
 refine dJ (T:=a6) (fun wr=> [(0,a1 g 0),(3,a4 0)]) (fun wr=>wr) (fun wr=>(Upd g w wr)∧(Rdr wr g TA tn tc en ts i (a9 none 0 0))) (fun wr=>0)
  (w:a6) ⟨(Upd.refl g w),hR⟩ E ⟨rfl,rfl,i3⟩ ?_
 rintro wr ⟨q,f⟩
 refine d9 [(0,a1 g 0),(3,a4 0)] wr E ⟨rfl,rfl,i3⟩ (aD (sr (mv 1 E (bC E E (vs:= [a1 g 0,.string (aB ([45]))]) (by kernel_rfl) (by decide) (jM f (by rw [V];rfl)) ?_))))
 rintro _ v1 ⟨_,rfl,r3,X⟩
 refine bB ?_
 have r:Upd g w v1:=q.then_ext X
 obtain rfl:=r3
 refine a7 (aI E (dA (d7 (dG (d8 (aJ (sr (mv 1 E ?_))))))))
 have ah:=(f.ext X).hb
 refine bC E E (vs:= [a1 g 0]) (by kernel_rfl) (by decide) (L6 (f.ext X) (hS.updG r hg1) hg1 hR' hC hzl hK hts) ?_
 rintro _ v5 ⟨_,I,F,q8,rfl,r9,e,M,j,o⟩
 refine bB ?_
 replace e:=e.mono r.size
 have U:Upd g w v5:=r.trans M
 have L:=nQ o
 obtain rfl:=r9
 refine mv 1 E (a7 (aD (sr (mv 1 E (bC E E (vs:= [a1 g 0,.string (aB ([94]))]) (by kernel_rfl) (by decide) (jM j (by rw [L];rfl)) ?_)))))
 rintro _ H ⟨_,rfl,Y,D⟩
 refine bB ?_
 have O:Upd g w H:=U.then_ext D
 obtain rfl:=Y
 refine a7 (aI E (aY (aJ (aD (sr (mv 2 E (a7 (bI ?_))))))))
 refine dJ (T:=a6) (fun wr=> [(0,a1 g 0),(4,a4 0),(20,a4 0),(21,a4 0)]) (fun wr=>wr) (fun wr=>(Upd g w wr)∧(Rdr wr g TA tn tc en ts q8 (a9 I 1 F))∧(Own wr w.heap.size 40 3 I 1 F (nJ (bR (aT 10) R C zs)))) (fun wr=>0)
  (H:a6) ⟨O,(j.ext D),(e.ext D)⟩ E ⟨rfl,rfl,rfl,rfl,i3⟩ ?_
 rintro wr ⟨q,f,h⟩
 refine d9 [(0,a1 g 0),(4,a4 0),(20,a4 0),(21,a4 0)] wr E ⟨rfl,rfl,rfl,rfl,i3⟩ (sr (aA E E E false (by decide) (a7 (aD (aI E (dA (d7 (dG (d8 (aJ (sr (mv 2 E (bA ?_)))))))))))))
 refine aJ (aW (aV [I0] E ⟨rfl,i3⟩ ?_))
 exact⟨_,_,_,_,rfl,rfl,h,q,f,o⟩
theorem L5 {TA:Option a8}(hR:Rdr w g TA tn tc en ts i (a9 none 0 0))(hS:Signs w)(hg1:1≠g)(hR':R≤64)(hC:C≤64)(hzl:zs.length=R*C)(hK:∀z,z∈zs→ln z≤1048576)(hts:ts.drop i=f6 (aT 10) R C zs++ []):aU aG 76 #[a1 g 0] w (nW w g TA tn tc en ts (bR (aT 10) R C zs) (Is (a4 0))):=by
 refine bJ Tryz.func76 E (n:=15) E (bq E) (args:= [a1 g 0]) ?_
 have M:=hR.hb.lt
 have Z:=hR.le
 have U:=hR.lim
 have X:=hR.len
 have W:∀p,TA=some p→p.block<g:=hR.lt
 refine bH [(0,a1 g 0)] ⟨rfl,i3⟩ (sr (mv 1 E (a7 (sr (mv 1 E ?_)))))
 have aa:=hR.hb
 refine bC E E (vs:= [a1 g 0]) (by kernel_rfl) (by decide) (LD hR hS hg1 hR' hC hzl hK hts) ?_
 rintro _ V ⟨_,D,q,q5,rfl,Y,h,u8,O,f⟩
 refine bB ?_
 replace h:=h.mono (Upd.refl g w).size
 have j:Upd g w V:=(Upd.refl g w).trans u8
 have r:=nQ f
 obtain rfl:=Y
 refine mv 1 E (a7 (aD (bI ?_)))
 refine dJ (T:=a6) (fun wr=> [(0,a1 g 0),(3,a4 0)]) (fun wr=>wr) (fun wr=>(Upd g w wr)∧(Rdr wr g TA tn tc en ts q5 (a9 D 1 q))∧(Own wr w.heap.size 40 3 D 1 q (nJ (bR (aT 10) R C zs)))) (fun wr=>0)
  (V:a6) ⟨j,O,h⟩ E ⟨rfl,rfl,i3⟩ ?_
 rintro wr ⟨j,F,e⟩
 refine d9 [(0,a1 g 0),(3,a4 0)] wr E ⟨rfl,rfl,i3⟩ (aD (sr (mv 1 E (bC E E (vs:= [a1 g 0,.string (aB ([42]))]) (by kernel_rfl) (by decide) (jM F (by rw [r];rfl)) ?_))))
 rintro _ L ⟨_,rfl,H,o⟩
 refine bB ?_
 have I:Upd g w L:=j.then_ext o
 obtain rfl:=H
 refine a7 (aI E (dA (d7 (dG (d8 (aJ (sr (mv 2 E (a7 (aW (aV [I0] E ⟨rfl,i3⟩ ?_)))))))))))
 exact⟨_,_,_,_,rfl,rfl,(e.ext o),I,(F.ext o),f⟩
theorem LF {TA:Option a8}(hR:Rdr w g TA tn tc en ts i (a9 none 0 0))(hS:Signs w)(hg1:1≠g)(hR':R≤64)(hC:C≤64)(hzl:zs.length=R*C)(hK:∀z,z∈zs→ln z≤1048576)(hts:ts.drop i=f6 (aT 10) R C zs++ []):aU aG 51 #[a1 g 0] w (nW w g TA tn tc en ts (bR (aT 10) R C zs) (Is (a4 0))):=by
 refine bJ Tryz.func51 E (n:=21) E (bq E) (args:= [a1 g 0]) ?_
 have V:=hR.hb.lt
 have ag:=hR.le
 have Y:=hR.lim
 have ab:=hR.len
 have aa:∀p,TA=some p→p.block<g:=hR.lt
 refine bH [(0,a1 g 0)] ⟨rfl,i3⟩ (sr (mv 1 E (a7 (sr (mv 1 E ?_)))))
 have ah:=hR.hb
 refine bC E E (vs:= [a1 g 0]) (by kernel_rfl) (by decide) (L5 hR hS hg1 hR' hC hzl hK hts) ?_
 rintro _ Z ⟨_,H,F,q5,rfl,r6,o,u8,W,j⟩
 refine bB ?_
 replace o:=o.mono (Upd.refl g w).size
 have q:Upd g w Z:=(Upd.refl g w).trans u8
 have h:=nQ j
 obtain rfl:=r6
 refine mv 1 E (a7 (bI ?_))
 refine dJ (T:=a6) (fun wr=> [(0,a1 g 0),(3,a4 0)]) (fun wr=>wr) (fun wr=>(Upd g w wr)∧(Rdr wr g TA tn tc en ts q5 (a9 H 1 F))∧(Own wr w.heap.size 40 3 H 1 F (nJ (bR (aT 10) R C zs)))) (fun wr=>0)
  (Z:a6) ⟨q,W,o⟩ E ⟨rfl,rfl,i3⟩ ?_
 rintro wr ⟨q,D,e⟩
 refine d9 [(0,a1 g 0),(3,a4 0)] wr E ⟨rfl,rfl,i3⟩ (bI (sr (mv 1 E (a7 (aD (bI (sr (mv 1 E (bC E E (vs:= [a1 g 0,.string (aB ([43]))]) (by kernel_rfl) (by decide) (jM D (by rw [h];rfl)) ?_)))))))))
 rintro _ U ⟨_,rfl,I,f⟩
 refine bB ?_
 have M:Upd g w U:=q.then_ext f
 obtain rfl:=I
 refine mv 1 E (a7 (aI E (sr (mv 1 E (bC E E (vs:= [a1 g 0,.string (aB ([45]))]) (by kernel_rfl) (by decide) (jM (D.ext f) (by rw [h];rfl)) ?_)))))
 rintro _ O ⟨_,rfl,X,r⟩
 refine bB ?_
 have L:Upd g w O:=M.then_ext r
 obtain rfl:=X
 refine mv 1 E (a7 (aI E (sr (mv 2 E (a7 (aW (bZ (bO (bZ (pE (bZ (aV [I0] E ⟨rfl,i3⟩ ?_))))))))))))
 exact⟨_,_,_,_,rfl,rfl,(e.ext (f.t r)),L,(D.ext (f.t r)),j⟩
theorem L7 {TA:Option a8}(hR:Rdr w g TA tn tc en ts i (a9 none 0 0))(hS:Signs w)(hg1:1≠g)(hR':R≤64)(hC:C≤64)(hzl:zs.length=R*C)(hK:∀z,z∈zs→ln z≤1048576)(hts:ts.drop i=f6 (aT 10) R C zs++ []):aU aG 52 #[a1 g 0] w (nW w g TA tn tc en ts (bR (aT 10) R C zs) (P9 w.heap.size)):=by
 refine bJ Tryz.func52 E (n:=15) E (bq E) (args:= [a1 g 0]) ?_
 have aa:=hR.hb.lt
 have ak:=hR.le
 have ab:=hR.lim
 have ag:=hR.len
 have ae:∀p,TA=some p→p.block<g:=hR.lt
 refine bH [(0,a1 g 0)] ⟨rfl,i3⟩ (sr (mv 1 E (a7 (sr (mv 1 E ?_)))))
 have am:=hR.hb
 refine bC E E (vs:= [a1 g 0]) (by kernel_rfl) (by decide) (LF hR hS hg1 hR' hC hzl hK hts) ?_
 rintro _ v2 ⟨_,U,L,q5,rfl,r6,H,u8,Z,q⟩
 refine bB ?_
 replace H:=H.mono (Upd.refl g w).size
 have j:Upd g w v2:=(Upd.refl g w).trans u8
 have O:=nQ q
 obtain rfl:=r6
 refine dN E E (k:=1) (e:=3) [I0] (fun _=>by kernel_rfl) fun M r nb=>?_
 have o:Own r w.heap.size 3 1 (some ⟨M,0,none⟩) 1 1 [I0]:=Own.mk_ (by rw [←nb.at_];exact j.size) nb.bk (aZ _) (by rw [eX];decide) E rfl
 have D:=nb.ext
 clear nb
 have F:Upd g w r:=j.then_ext D
 obtain⟨KA,Y⟩:∃A,A=(some ⟨M,0,none⟩:Option a8):=⟨_,rfl⟩
 rw [←Y] at o⊢
 refine mv 1 E (a7 (aD (bI ?_)))
 refine dJ (T:=a6) (fun wr=> [(0,a1 g 0),(3,a9 KA 1 1)]) (fun wr=>wr) (fun wr=>(Upd g w wr)∧(Rdr wr g TA tn tc en ts q5 (a9 U 1 L))∧(Own wr w.heap.size 40 3 U 1 L (nJ (bR (aT 10) R C zs)))∧(Own wr w.heap.size 3 1 KA 1 1 ([I0]))) (fun wr=>0)
  (r:a6) ⟨F,(Z.ext D),(H.ext D),o⟩ E ⟨rfl,rfl,i3⟩ ?_
 rintro wr ⟨j,V,f,I⟩
 refine d9 [(0,a1 g 0),(3,a9 KA 1 1)] wr E ⟨rfl,rfl,i3⟩ (aD (sr (mv 1 E (bC E E (vs:= [a1 g 0,.string (aB ([44]))]) (by kernel_rfl) (by decide) (jM V (by rw [O];rfl)) ?_))))
 rintro _ X ⟨_,rfl,W,h⟩
 refine bB ?_
 have F:Upd g w X:=j.then_ext h
 obtain rfl:=W
 refine a7 (aI E (dA (d7 (dG (d8 (aJ (sr (mv 2 E (a7 (aW (aV [a9 KA 1 1] E ⟨rfl,i3⟩ ?_)))))))))))
 exact⟨_,_,_,_,rfl,⟨_,_,rfl,(I.ext h)⟩,(f.ext h),F,(V.ext h),q⟩
theorem LH {TA:Option a8}(hR:Rdr w g TA tn tc en ts i (a9 NA 1 nc))(ho:Own w b 40 3 NA 1 nc us)(hbw:b≤w.heap.size)(hgb:g<b):aU aG 49 #[a1 g 0,a4 op,.string (aB tx),a9 A kn kc] w (fun e w'=>∃NA' nc' wa wb,e= .returned (a4 1)∧Ext w wa∧UpdO NA wa wb∧Upd g wb w'∧Rdr w' g TA tn tc en ts i (a9 NA' 2 nc')∧Own w' b 40 3 NA' 2 nc' (us++ [a4 op,.string (aB tx),a9 A kn kc])):=by
 refine bJ Tryz.func49 E (n:=28) E (bq E) (args:= [a1 g 0,a4 op,.string (aB tx),a9 A kn kc]) ?_
 have M:=hR.hb.lt
 have Z:=hR.le
 have W:=hR.lim
 have X:=hR.len
 have F:∀p,TA=some p→p.block<g:=hR.lt
 refine bH [(0,a1 g 0),(1,a4 op),(2,.string (aB tx)),(3,a9 A kn kc)] ⟨rfl,rfl,rfl,rfl,i3⟩ (sr (mv 1 E (a7 (sr (mv 2 E (pf g 0 E (pf g 4 E (aH E E (aS (fun _=>by kernel_rfl) hR.hb E) (mv 3 E (pu (v:= .agg #[a4 op,.string (aB tx),a9 A kn kc]) E (dN E E (k:=1) (e:=40) [a4 op,.string (aB tx),a9 A kn kc] (fun _=>by kernel_rfl) fun _ _ nb=>?_)))))))))))
 have V:=nb.bk
 have H:=nb.ext
 clear nb
 have j:=(ho.ext H)
 refine fB E E E xO AX E j (aN hbw H.size) [a4 op,.string (aB tx),a9 A kn kc] E (iI V) E fun U O _ L r _=>(pf g 0 E (pf g 4 E ?_))
 have f:=((hR.ext H).updO r (fun p I=>by have:=(j.block p I).1;omega) (fun p q I Y=>by have:=(j.block p I).1;have:=F q Y;omega))
 refine fO E E E (fun _=>by kernel_rfl) E f.hb (bq E) E [a9 TA tn tc,a4 i,a4 en,I0,a9 U (1+1) O] E fun _ D o _=>?_
 have h:=f.set o D (by omega)
 refine a7 (sr (mv 1 E (pf g 0 E (pf g 4 E (aH E E (aS (fun _=>by kernel_rfl) h.hb E) (pu (v:= a4 ((1+1:Nat):Int)) E (bF E E E (((1+1)-1:Nat):Int) (kK (a:=1+1) (b:=1) E E) (mv 1 E (a7 (aW (aV [a4 (((1+1)-1:Nat):Int)] E ⟨rfl,i3⟩ ?_)))))))))))
 exact⟨_,_,_,_,rfl,H,r,o,h,(L.updT f.hb (by decide) o)⟩
theorem LC {TA:Option a8}(hR:Rdr w g TA tn tc en ts 0 (a9 none 0 0))(hS:Signs w)(hg1:1≠g)(hR':R≤64)(hC:C≤64)(hzl:zs.length=R*C)(hK:∀z,z∈zs→ln z≤1048576)(hts:ts=(2,[112,114,105,110,116])::f6 (aT 10) R C zs):aU aG 27 #[a1 g 0] w (fun e w'=>e= .returned (.tuple #[])∧DS g TA tn tc en ts (bR (aT 10) R C zs) w w'):=by
 refine bJ Tryz.func27 E (n:=56) E (bq E) (args:= [a1 g 0]) ?_
 have Y:=hR.hb.lt
 have cv:=hR.le
 have cf:=hR.lim
 have cm:=hR.len
 have ao:∀p,TA=some p→p.block<g:=hR.lt
 obtain⟨Z,M,_⟩:=hZ (show ts.drop 0=(2,[112,114,105,110,116])::(f6 (aT 10) R C zs++ []) by rw [hts,fA];rfl)
 have az:ts[0+1]?=some (3,[91]):=by rw [rR M];exact uL hzl
 have cr:0+1<ts.length:=(eJ.1 az).1
 refine bH [(0,a1 g 0)] ⟨rfl,i3⟩ (aD (bI (sr (mv 1 E (bC E E (vs:= [a1 g 0]) (by kernel_rfl) (by decide) (by have h:=rN hR;rw [decide_eq_false (by omega)] at h;exact h) ?_)))))
 rintro _ v1 ⟨_,rfl,r3,X⟩
 refine bB ?_
 have ba:Upd g w v1:=(Upd.refl g w).then_ext X
 obtain rfl:=r3
 refine mv 1 E (a7 (aI E (sr (mv 1 E (bC E E (vs:= [a1 g 0,I0,a4 2,.string (aB ([]))]) (by kernel_rfl) (by decide) (gJ (hR.ext X) (b:=true) (by rw [dF,Z];rfl)) ?_)))))
 rintro _ v4 ⟨_,rfl,r6,e5⟩
 refine bB ?_
 have aw:Upd g w v4:=ba.then_ext e5
 obtain rfl:=r6
 refine mv 2 E (pf g 0 E (pf g 0 E (aH E E (aS (fun _=>by kernel_rfl) (hR.ext (X.t e5)).hb E) ?_)))
 obtain⟨p7,br,_,_,aq,_⟩:=((hR.ext (X.t e5))).at (j:=0) (by omega)
 refine cG E E E Tryz.underlying62 m3 0 E p7 br (pu (v:= .pointer (some (p7.add 1))) E (aH E E (cO (fun _=>by kernel_rfl) aq) (iD (a:=(ts.getD 0 (0,[])).2) (b:= [108,101,116]) E E E ((hR.ext (X.t e5)).low_at (by omega)) false (y3 (by rw [getD_some Z];decide)) (pu (v:= ik) E (mv 1 E (a7 (aI E (sr (mv 1 E ?_)))))))))
 have cb:=(hR.ext (X.t e5)).hb
 refine bC E E (vs:= [a1 g 0]) (by kernel_rfl) (by decide) (L8 (hR.ext (X.t e5)) (by omega) Z) ?_
 rintro _ v8 ⟨_,rfl,r9,bf,D⟩
 refine bB ?_
 have av:Upd g w v8:=aw.trans bf
 obtain rfl:=r9
 refine mv 1 E (a7 (sr (mv 1 E (a7 (aD (sr (mv 1 E (bC E E (vs:= [a1 g 0]) (by kernel_rfl) (by decide) (by have h:=rN D;rw [decide_eq_false (by omega)] at h;exact h) ?_))))))))
 rintro _ ap ⟨_,rfl,ay,W⟩
 refine bB ?_
 have H:Upd g w ap:=av.then_ext W
 obtain rfl:=ay
 refine pu (v:= gx) E (a7 (b8 E (aE (mv 1 E ?_))))
 have ce:=(D.ext W).hb
 refine bC E E (vs:= [a1 g 0]) (by kernel_rfl) (by decide) (L7 (D.ext W) (hS.updG H hg1) hg1 hR' hC hzl hK M) ?_
 rintro _ bu ⟨_,_,_,ax,rfl,bh,o,bd,U,O⟩
 refine bB ?_
 replace o:=o.mono H.size
 have am:Upd g w bu:=H.trans bd
 have bi:=nQ O
 obtain⟨ag,ae,rfl,F⟩:=bh
 replace F:=F.mono H.size
 refine mv 1 E (a7 (aE (mv 3 E (bC E E (vs:= [a1 g 0,a4 12,.string (aB ([112,114,105,110,116])),a9 ag 1 ae]) (by kernel_rfl) (by decide) (LH U o am.size Y (op:=12)) ?_))))
 rintro _ bj ⟨_,_,bz,bv,rfl,L,r,ah,V,ak⟩
 refine bB ?_
 have ar:Upd g w bz:=am.then_ext L
 have f:=(o.ext L)
 have bm:Upd g w bv:=Upd.newO ar r (fun p hp=>(f.block p hp).1)
 have ai:=((U.ext L).updO r (fun p hp=>by have:=(f.block p hp).1;omega) (fun p q hp hq=>by have:=(f.block p hp).1;have:=ao q hq;omega)).hb
 have bw:Upd g w bj:=bm.trans ah
 refine bA (bU (aJ (sr (mv 1 E ?_))))
 have ab:tn≤ax:=by have h1:=List.drop_eq_nil_iff.1 O;omega
 refine bC E E (vs:= [a1 g 0]) (by kernel_rfl) (by decide) (by have h:=rN V;rw [decide_eq_true ab] at h;exact h) ?_
 rintro _ bg ⟨_,rfl,bo,I⟩
 refine bB ?_
 have au:Upd g w bg:=bw.then_ext I
 obtain rfl:=bo
 refine pu (v:= ik) E (a7 (aI E (aY (jN [] E i3 ?_))))
 exact⟨rfl,au,_,_,_,_,_,(V.ext I),(ak.ext I),((((F.ext L).updOT f (by decide) r).updT ai (by decide) ah).ext I)⟩
theorem JM:okL ([.blank 9,.blank 32,.nam [112,114,105,110,116],.blank 160]++gY (aT 10) R C zs++ [.blank 32,.com [32,233]]) []:=by
 rw [jH,jH]
 refine⟨⟨⟨⟨by decide,bY (by decide)⟩,⟨by decide,bY (by decide)⟩,⟨by decide,by decide,by decide,by decide,?_⟩,⟨by decide,cA (bY rfl)⟩,trivial⟩,zX gK⟩,⟨by decide,bY (by decide)⟩,⟨fun c e=>by simp at e;rcases e with rfl | rfl;(· exact bY (by decide));(· exact cA (cA rfl)),rfl⟩,trivial⟩
 exact mY
theorem JL:bM (aR ([.blank 9,.blank 32,.nam [112,114,105,110,116],.blank 160]++gY (aT 10) R C zs++ [.blank 32,.com [32,233]]))=([9,32,112,114,105,110,116,194,160]++bR (aT 10) R C zs)++ [32,35,32,195,169]:=by
 rw [jE,jE,rC,nP,nP,rP (m8 gK)]
 rfl
theorem JK (h:zs.length=R*C):dO ([.blank 9,.blank 32,.nam [112,114,105,110,116],.blank 160]++gY (aT 10) R C zs++ [.blank 32,.com [32,233]])=(2,[112,114,105,110,116])::f6 (aT 10) R C zs:=by
 rw [gS,gS,zW (aT 10) h,show dO [.blank 32,.com [32,233]]= [] from rfl,fA]
 rfl
theorem JN (h:zs.length=R*C)(hR:R≤64)(hC:C≤64)(hK:∀z,z∈zs→ln z≤1048576):∀ds,Pc.num ds∈ [.blank 9,.blank 32,.nam [112,114,105,110,116],.blank 160]++gY (aT 10) R C zs++ [.blank 32,.com [32,233]]→ds.length≤2147483648:=fun ds e=>by
 rcases eQ.1 e with e | e
 ·rcases eQ.1 e with e | e
  ·simp at e
  ·have:=zY h hR hC hK ds e;omega
 ·simp at e
theorem JO (h:zs.length=R*C)(hR:R≤64)(hC:C≤64)(hK:∀z,z∈zs→ln z≤1048576):(aR ([.blank 9,.blank 32,.nam [112,114,105,110,116],.blank 160]++gY (aT 10) R C zs++ [.blank 32,.com [32,233]])).length≤549755813888:=by
 have h1:=rB h hR hC hK
 rw [jE,jE,rC,cK,cK]
 show 8+_+4≤_
 omega
def P7 (b:Nat)(s:List Nat)(v:aC)(w:a6):Prop:=∃NA nc KA kc,v= a9 NA 2 nc∧Own w b 40 3 NA 2 nc (gF s KA kc)∧Own w b 3 1 KA 1 kc [a4 0]
theorem MF (hm:Mxl w)(hS:Signs w)(hR':R≤64)(hC:C≤64)(hzl:zs.length=R*C)(hK:∀z,z∈zs→ln z≤1048576):aU aG 11 #[.string (aB (([9,32,112,114,105,110,116,194,160]++bR (aT 10) R C zs)++ [32,35,32,195,169]))] w (Gv w (T3 (P7 w.heap.size (bR (aT 10) R C zs)) (Is (a4 0)) (Is (a4 0)))):=by
 have bi:1<w.heap.size:=World.block_lt_of_cell? w _ (hS 0 (by decide))
 refine bJ Tryz.func11 E (n:=37) E (bq E) (args:= [.string (aB (([9,32,112,114,105,110,116,194,160]++bR (aT 10) R C zs)++ [32,35,32,195,169]))]) (bH [(0,.string (aB (([9,32,112,114,105,110,116,194,160]++bR (aT 10) R C zs)++ [32,35,32,195,169])))] ⟨rfl,i3⟩ (sr (mv 3 E (a7 (sr (mv 1 E (bC E E (vs:= [.string (aB (([9,32,112,114,105,110,116,194,160]++bR (aT 10) R C zs)++ [32,35,32,195,169]))]) (by kernel_rfl) (by decide) (by have h:=BK (hm.ext aF) JM (JN hzl hR' hC hK) (JO hzl hR' hC hK);rw [JL,JK hzl] at h;exact h) ?_)))))))
 rintro _ _ ⟨_,rfl,r3,e2⟩
 refine bB ?_
 have X:=(Ext.refl w).trans e2
 obtain⟨g,TA,tn,tc,en,rfl,am,F⟩:=r3
 have ak:w.heap.size≤g:=aN (Ext.refl w).size am
 have av:=F.lim
 have bd:=F.len
 have f:∀p,TA=some p→p.block<g:=F.lt
 refine mv 1 E (pf g 0 E (pu (v:= a4 0) E (pu (v:= a4 0) E (mv 3 E (a7 (aD (sr (mv 1 E (aA E E E false (by decide) (a7 (aI E (aY (aJ ?_)))))))))))))
 refine aD (sr (mv 1 E (pu (v:= .func (.func 27) #[a1 g 0] #[]) E ?_)))
 have q4:=F.hb.lt
 refine bC E E (vs:= [.func (.func 27) #[a1 g 0] #[]]) (by kernel_rfl) (by decide) (BW (k:=27) (fs:= #[a1 g 0]) (cs:= #[]) (Q:=DS g TA tn tc en ((2,[112,114,105,110,116])::f6 (aT 10) R C zs) (bR (aT 10) R C zs)) (fun _ _=>by kernel_rfl) (fun w1 e1=>LC (F.ext e1) (hS.ext (X.trans e1)) (by omega) hR' hC hzl hK E) (fun w1 _ go vs e1 hq _ hb=>hb.upd hq.1 (by omega))) ?_
 rintro _ _ ⟨rfl,_,_,aq,e8,⟨ao,I,Z,U,_,_,H,r,D⟩,ag,_,j,e⟩
 refine bB ?_
 have W:=X.trans e8
 replace r:=r.mono W.size
 replace D:=D.mono W.size
 have au:=(F.ext e8).hb
 have aj:=ao.ext W ak
 have aa:w.heap.size≤aq:=aN X.size ag
 have ab:=e.ext aj aa
 refine eK E (z:= .agg #[I0,I0]) (vs:= [I0,I0]) (fun _=>by kernel_rfl) E fun q _ nb=>?_
 have L:=nb.bk
 have ae:w.heap.size≤q:=by rw [←nb.at_];exact ab.size
 have bg:g<q:=by rw [←nb.at_];exact (H.upd e (by omega) (fun p o=>by have:=f p o;omega)).hb.lt
 have Y:∀p:a8,I=some p→p.block<q:=fun p o=>by have:=(((r.updT j (by decide) e)).block p o).2;have:=nb.at_;omega
 have ay:∀p:a8,I=some p→p.block≠q:=fun p o=>Nat.ne_of_lt (Y p o)
 have V:∀p:a8,U=some p→p.block<q:=fun p o=>by have:=(((D.updT j (by decide) e)).block p o).2;have:=nb.at_;omega
 have ax:∀p:a8,U=some p→p.block≠q:=fun p o=>Nat.ne_of_lt (V p o)
 have M:=nb.ext
 clear nb
 have ar:=ab.trans M
 refine so vY L [I0,I0] ar ae E E E E fun _ ah O ai=>(a7 (sr (pf q 1 E (aH E E (aS (fun _=>by kernel_rfl) ah E) (aA E E E false (by decide) (a7 (aI E (aY (aJ (aD (sr (mv 1 E (pf g 0 E ?_)))))))))))))
 refine pf g 4 E (aH E E (aS (fun _=>by kernel_rfl) (((H.upd e (by omega) (fun p o=>by have:=f p o;omega)).ext M).upd O (by omega) (fun p o=>by have:=f p o;omega)).hb E) (pu (v:= a4 2) E (aA E E E false (by decide) (a7 (aI E (aY (aJ (sr (mv 1 E (pf g 0 E (pf g 4 E (aH E E (aS (fun _=>by kernel_rfl) (((H.upd e (by omega) (fun p o=>by have:=f p o;omega)).ext M).upd O (by omega) (fun p o=>by have:=f p o;omega)).hb E) (mv 1 E ?_)))))))))))))
 refine mv 2 E (a7 (aW (aV [a9 I 2 Z,I0,I0] E ⟨rfl,rfl,rfl,i3⟩ ?_)))
 exact⟨_,rfl,⟨_,_,_,rfl,⟨_,_,_,_,rfl,(((r.updT j (by decide) e).ext M).updT L (by decide) O),(((D.updT j (by decide) e).ext M).updT L (by decide) O)⟩,rfl,rfl⟩,ai⟩
structure Uq (g b:Nat)(w w':a6):Prop where
 os:w'.os=w.os
 tape:w'.tape=w.tape
 output:w'.output=w.output
 size:w.heap.size≤w'.heap.size
 low:∀i,i<b→i<w.heap.size→w'.heap[i]?=w.heap[i]?
 bk:∀{i t vs},Bk w i t vs→i≠g→t≠5→Bk w' i t vs
section
variable {g b:Nat}{a w w' v:a6}
theorem Uq.refl (g b:Nat)(w:a6):Uq g b w w:=⟨rfl,rfl,rfl,aZ _,fun _ _ _=>rfl,fun h _ _=>h⟩
theorem Uq.trans (h:Uq g b w v)(k:Uq g b v w'):Uq g b w w':=
 ⟨k.os.trans h.os,k.tape.trans h.tape,k.output.trans h.output,aN h.size k.size,fun i hi hl=>(k.low i hi (cU hl h.size)).trans (h.low i hi hl),fun x h1 h2=>k.bk (h.bk x h1 h2) h1 h2⟩
theorem Uq.ofExt (e:Ext w w'):Uq g b w w':=⟨e.below.os,e.below.tape,e.below.output,e.size,fun i _ hl=>e.below.block i hl,fun x _ _=>x.ext e⟩
theorem Uq.ofUpd (u:Upd g w w')(hg:b≤g):Uq g b w w':=⟨u.by_.os,u.by_.tape,u.by_.output,u.by_.size,fun i hi hl=>u.by_.block i hl (fun e=>by injection e with e;omega),fun x h1 _=>x.upd u h1⟩
theorem Uq.ofO {s:Nat}(h : Own w b 5 s A n c vs)(u : UpdO A w w'): Uq g b w w' := by
  refine ⟨u.by_.os, u.by_.tape, u.by_.output, u.by_.size, fun i hi hl => u.by_.block i hl (fun e => ?_), fun x _ h2 => ?_⟩
  · cases A with
    | none => cases e
    | some p => have := (h.block p rfl).1; have e : i = p.block := by simpa using e
                omega
  · refine x.updO u (fun p f => ?_)
    rcases h with h | ⟨k, cs, o, _, j, _⟩
    · rw [h.1] at f; cases f
    · rw [o] at f; cases f
      intro e
      dsimp at e
      subst e
      have := j.symm.trans x
      simp only [dR, Obj.cells.injEq] at this
      exact h2 this.2.1.symm
theorem Uq.toExt (h:Uq g b w w')(e:Ext a w)(hb:a.heap.size≤b):Ext a w':=
 ⟨⟨h.os.trans e.below.os,h.tape.trans e.below.tape,h.output.trans e.below.output,aN e.size h.size,fun i hi=>(h.low i (by omega) (cU hi e.size)).trans (e.below.block i hi)⟩⟩
theorem Own.uq {s:Nat}(h:Own w b' t s A n c vs)(u:Uq g b w w')(hne:∀p,A=some p→p.block≠g)(ht:t≠5):Own w' b' t s A n c vs:=by
 rcases h with h | ⟨k,cs,e,hb,f,r⟩
 ·exact bY h
 ·exact cA ⟨k,cs,e,hb,u.bk f (hne _ e) ht,r⟩
end
def WrB (w:a6)(g b:Nat)(tv:aC)(bs:List Nat):Prop:=
 ∃A n c pv,Bk w g 72 [tv,pv,a9 A n c,a4 0,a4 0]∧(pv= .pointer none∨pv= a1 g 1)∧Own w b 5 1 A n c (bs.map B8)∧n=bs.length∧b≤g
theorem Bk.five {a b c d e:aC}(h:Bk w g t [a,b,c,d,e]):w.cell? ⟨g,1,none⟩=some b∧w.cell? ⟨g,2,none⟩=some c∧w.frozen? ⟨g,1,none⟩=false∧w.frozen? ⟨g,2,none⟩=false∧w.shape? g=some (t,5):=
 ⟨h.cell (i:=1) (by simp),h.cell (i:=2) (by simp),h.frozen 1,h.frozen 2,by unfold Bk at h;simp [World.shape?,h]⟩
theorem FL (h:∀x,x∈s→x<256):Lib.strCells (aB s)=s.map B8:=by
 unfold Lib.strCells aB
 simp only [List.map_map]
 refine List.map_congr_left fun x e=>?_
 have:=h x e
 show bP .u8 (((UInt8.ofNat x).toNat:Nat):Int)=_
 rw [UInt8.toNat_ofNat',eZ this];rfl
theorem OE (h:Bk w g 72 [x,a1 g 1,y,z,u]):aU aG 83 #[a1 g 1] w fun e w'=>e= .returned (.tuple #[])∧w'=w:=by
 obtain⟨h1,h2,f1,f2,hsh⟩:=h.five
 obtain⟨j,hj,_⟩:=Option.map_eq_some_iff.1 (show (Tryz.prog.info? 70).map (·.size)=some 2 by kernel_rfl)
 have hp:Tryz.prog.underlying 67=some (.pointer 70):=by kernel_rfl
 go_enter Tryz.func83,Tryz.ntmps83
 go_wp2
 rw [Lib.run_neq_ptr_same w _ hp hj]
 go_wp2
 go_end0
 exact⟨rfl,rfl⟩
theorem OG (h:Bk w g 72 [x,.pointer none,y,z,u]):aU aG 83 #[a1 g 1] w fun e w'=>e= .returned (.tuple #[])∧w'=w.setCell ⟨g,1,none⟩ (a1 g 1):=by
 obtain⟨h1,h2,f1,f2,hsh⟩:=h.five
 obtain⟨j,hj,hjs⟩:=Option.map_eq_some_iff.1 (show (Tryz.prog.info? 70).map (·.size)=some 2 by kernel_rfl)
 have hp:Tryz.prog.underlying 67=some (.pointer 70):=by kernel_rfl
 have hu:Tryz.prog.underlying 144=some .unsafePointer:=by kernel_rfl
 have hlie:liesAt aG Tryz.prog.depth 72 (5/Tryz.prog.cellsOf 72) 1 70 1=true:=by kernel_rfl
 go_enter Tryz.func83,Tryz.ntmps83
 go_wp2
 rw [Lib.run_to_unsafe w ⟨g,1,none⟩ hp hu hj (by rw [hjs];decide) hsh (show 1<5 by decide)]
 simp only [pV]
 rw [Oper.upon_value]
 go_wp2
 rw [run_callFunc_extern Tryz.func105 (by kernel_rfl) (by kernel_rfl) (by kernel_rfl) (e:=Extern.AbiNoEscape.same) (by kernel_rfl)]
 rw [Lib.run_noEscape]
 simp only [pV]
 rw [Oper.upon_value]
 go_wp2
 rw [Lib.run_from_unsafe w ⟨g,1,none⟩ hu hp hj hsh hlie]
 simp only [pV]
 rw [Oper.upon_value]
 go_wp2
 go_end0
 exact⟨rfl,rfl⟩
theorem BZ {pv:aC}(h:Bk w g 72 [x,pv,y,z,u])(hp:pv= .pointer none∨pv= a1 g 1):aU aG 83 #[a1 g 1] w fun e w'=>e= .returned (.tuple #[])∧Bk w' g 72 [x,a1 g 1,y,z,u]∧Upd g w w':=by
 rcases hp with rfl | rfl
 ·exact (OG h).mono fun e w' ⟨h1,h2⟩=>⟨h1,by rw [h2];exact h.set 1 _,by rw [h2];exact (Upd.refl g w).setCell 1 _⟩
 ·exact (OE h).mono fun e w' ⟨h1,h2⟩=>⟨h1,by rw [h2];exact h,by rw [h2];exact Upd.refl g w⟩
theorem C1 {tv:aC}(h:WrB w g b tv bs)(hbw:b≤w.heap.size)(hs:∀x,x∈s→x<256)(hlen:bs.length+s.length≤1099511627776):aU aG 59 #[a1 g 1,.string (aB s)] w fun e w'=>e= .returned (.tuple #[a4 ((s.length:Nat):Int),.nilIface])∧Uq g b w w'∧WrB w' g b tv (bs++s):=by
 obtain⟨A,n,c,pv,hb,hp,ho,rfl,hbg⟩:=h
 obtain⟨i0,hi,hi3⟩:=Option.map_eq_some_iff.1 (show (Tryz.prog.info? 5).map (fun i=>(i.zero,i.size,i.bytes))=some (some (.int .u8 0),1,1) by kernel_rfl)
 simp only [Prod.mk.injEq] at hi3
 obtain⟨hz0,hz1,hz2⟩:=hi3
 have e240:∀args w,(callFunc 83 args).run aG w= .ok (.enter 83 args) w:=fun _ _=>by kernel_rfl
 have ut:Tryz.prog.underlying 68=some (.slice 5):=by kernel_rfl
 have us:Tryz.prog.underlying 9=some .string:=by kernel_rfl
 go_enter Tryz.func59,Tryz.ntmps59
 go_wp2_with (go_at_fn 83;refine (BZ hb hp).mono ?_)
 rintro e w1 ⟨rfl,hb1,hu1⟩
 have ho1:Own w1 b 5 1 A bs.length c (bs.map B8):=ho.updT hb (by decide) hu1
 have hsz:=hu1.by_.size
 obtain⟨c0,c1,f0,f1,hsh⟩:=hb1.five
 go_wp2_with (at_builtin;refine Lib.wpList_append_own_string _ E _ _ 68 9 E b 5 i0 ut us hi hz0 hz1 hz2 _ _ _ E ho1.row (aB s) E ?c3 ?c4 ?c5 ?_)
 case c3=>rw [eD];unfold maxLen;omega
 case c4=>rw [eD];omega
 case c5=>omega
 intro v' w2 hown' hgrow _
 obtain⟨A2,c2,rfl,ho2⟩:=Own.of_row hown'
 have hu2:UpdO A w1 w2:=⟨by rw [zA] at hgrow;exact hgrow⟩
 have hb2:Bk w2 g 72 [tv,a1 g 1,a9 A bs.length c,a4 0,a4 0]:=(Uq.ofO (g:=g+1) ho1 hu2).bk hb1 (by omega) (by decide)
 obtain⟨d0,d1,k0,k1,_⟩:=hb2.five
 go_wp2
 go_ret2
 rw [FL hs] at ho2
 refine⟨by rw [eD];rfl,((Uq.ofUpd hu1 hbg).trans (Uq.ofO ho1 hu2)).trans (Uq.ofUpd ((Upd.refl g w2).setCell 2 _) hbg),A2,bs.length+(aB s).size,c2,_,hb2.set 2 _,cA rfl,?_,by rw [eD,cK],hbg⟩
 rw [List.map_append]
 exact ho2.updT hb2 (by decide) ((Upd.refl g w2).setCell 2 _)
theorem MB {tv:aC}{x:Nat}(h:WrB w g b tv bs)(hbw:b≤w.heap.size)(hlen:bs.length+1≤1099511627776):aU aG 58 #[a1 g 1,.int .u8 ((x:Nat):Int)] w fun e w'=>e= .returned .nilIface∧Uq g b w w'∧WrB w' g b tv (bs++ [x]):=by
 obtain⟨A,n,c,pv,hb,hp,ho,rfl,hbg⟩:=h
 obtain⟨i0,hi,hi3⟩:=Option.map_eq_some_iff.1 (show (Tryz.prog.info? 5).map (fun i=>(i.zero,i.size,i.bytes))=some (some (.int .u8 0),1,1) by kernel_rfl)
 simp only [Prod.mk.injEq] at hi3
 obtain⟨hz0,hz1,hz2⟩:=hi3
 have e240:∀args w,(callFunc 83 args).run aG w= .ok (.enter 83 args) w:=fun _ _=>by kernel_rfl
 have ut:Tryz.prog.underlying 68=some (.slice 5):=by kernel_rfl
 have ut2:∀w,(underlying 68).run aG w= .ok (.slice 5) w:=run_underlying ut
 have zu:∀w,(zeroValue 5).run aG w= .ok (.int .u8 0) w:=fun _=>by kernel_rfl
 have su:∀w,(sizeOf 5).run aG w= .ok 1 w:=fun _=>by kernel_rfl
 go_enter Tryz.func58,Tryz.ntmps58
 go_wp2_with (go_at_fn 83;refine (BZ hb hp).mono ?_)
 rintro e w1 ⟨rfl,hb1,hu1⟩
 have ho1:Own w1 b 5 1 A bs.length c (bs.map B8):=ho.updT hb (by decide) hu1
 have hsz:=hu1.by_.size
 obtain⟨c0,c1,f0,f1,hsh⟩:=hb1.five
 have ha1:Ext w1 (w1.alloc (.cells #[.int .u8 ((x:Nat):Int)] 5)):=(Ext.refl _).alloc _
 go_wp2_with (at_builtin;refine wpList_append_own _ E _ _ 68 E b 5 i0 (.int .u8 0) 1 1 ut hi hz0 hz1 hz2 E (by decide) _ _ _ E (ho1.ext ha1).row ⟨w1.heap.size,0,none⟩ 1 1 [.int .u8 ((x:Nat):Int)] E E ?c1 ?c2 ?c3 ?c4 ?c5 ?_)
 case c1=>
  intro j u hj
  match j,hj with
  | 0,hj=>simp at hj;subst hj;simp [iS]
 case c2=>intro u hu;simp at hu;subst hu;rfl
 case c3=>unfold maxLen;omega
 case c4=>omega
 case c5=>simp;omega
 intro v' w2 hown' hgrow _
 obtain⟨A2,c2,rfl,ho2⟩:=Own.of_row hown'
 have hu2:UpdO A (w1.alloc (.cells #[.int .u8 ((x:Nat):Int)] 5)) w2:=⟨by rw [zA] at hgrow;exact hgrow⟩
 have hb2:Bk w2 g 72 [tv,a1 g 1,a9 A bs.length c,a4 0,a4 0]:=(Uq.ofO (g:=g+1) (ho1.ext ha1) hu2).bk (hb1.ext ha1) (by omega) (by decide)
 obtain⟨d0,d1,k0,k1,_⟩:=hb2.five
 go_wp2
 go_ret
 refine⟨rfl,(((Uq.ofUpd hu1 hbg).trans (Uq.ofExt ha1)).trans (Uq.ofO (ho1.ext ha1) hu2)).trans (Uq.ofUpd ((Upd.refl g w2).setCell 2 _) hbg),A2,bs.length+1,c2,_,hb2.set 2 _,cA rfl,?_,by rw [cK];rfl,hbg⟩
 rw [List.map_append]
 exact ho2.updT hb2 (by decide) ((Upd.refl g w2).setCell 2 _)
theorem MC {a:a6}{tv:aC}(h:WrB w g b tv bs)(ha:Ext a w)(hab:a.heap.size≤b)(hs:∀x,x∈bs→x<256)(h0:bs≠ [])(hlen:bs.length≤1099511627776):aU aG 30 #[a1 g 1] w fun e w'=>e= .returned (.string (aB bs))∧Ext a w':=by
 obtain⟨A,n,c,pv,hb,hp,ho,rfl,hbg⟩:=h
 have hb':Bk w.drew g 72 [tv,pv,a9 A bs.length c,a4 0,a4 0]:=hb
 obtain⟨c0,c1,f0,f1,hsh⟩:=hb'.five
 have hl0:bs.length≠0:=by simpa using h0
 obtain⟨k,cs,rfl,hbk,hk,hnc,hcm,hcs,htake⟩:∃k cs,A=some ⟨k,0,none⟩∧b≤k∧Bk w k 5 cs∧bs.length≤c∧c≤maxLen∧cs.length=c*1∧cs.take (bs.length*1)=bs.map B8:=by
  rcases ho with⟨_,hz,_⟩ | h
  ·exact absurd hz hl0
  ·exact h
 have hSD:(Builtin.unsafeSliceData_ #[68] 111 #[a9 (some ⟨k,0,none⟩) bs.length c]).run aG w.drew= .ok (a1 k 0) w.drew:=
  Lib.run_unsafeSliceData_row _ _ _ _ _ _ (by omega)
 have hUS:(Builtin.unsafeString_ #[111,3] 9 #[a1 k 0,a4 ((bs.length:Nat):Int)]).run aG w.drew= .ok (.string (aB bs)) (w.drew.freeze ⟨k,0,none⟩ bs.length):=by
  have hk':Bk w.drew k 5 cs:=hk
  have:=Lib.run_unsafeString_row (P:=aG) w.drew 111 3 9 5 (by kernel_rfl) (by kernel_rfl) k cs.length (by unfold Bk at hk';simp [World.shape?,hk']) (bs.map UInt8.ofNat) (by simpa using h0) (by simp;omega) (by simp;omega) (by
   intro j x hx
   have hj:j<bs.length:=by have:=(eJ.1 hx).1;simpa using this
   have e:cs.getD j undef=B8 (bs.getD j 0):=by
    have h1:(cs.take (bs.length*1))[j]?=(bs.map B8)[j]?:=by rw [htake]
    rw [List.getElem?_take_of_lt (by omega),gR,bS hj] at h1
    rw [bE,h1,bE,bS hj];rfl
   have h2:x=UInt8.ofNat (bs.getD j 0):=by
    rw [gR,bS hj] at hx
    rw [bE,bS hj]
    simpa using hx.symm
   have h3:bs.getD j 0<256:=by rw [bE,bS hj];exact hs _ (jA hj)
   rw [g7,dY,hk'.cell (by omega),e,h2,UInt8.toNat_ofNat',eZ h3];rfl)
  rw [List.length_map] at this
  exact this
 go_enter Tryz.func30,Tryz.ntmps30
 go_wp2
 go_region
 all_goals (go_wp2;go_ret;exact⟨rfl,⟨(Lib.below_freeze (Below.drew (Below.refl b w)) (p:=⟨k,0,none⟩) hbk _).mono hab |> ha.below.trans⟩⟩)
theorem DC (a:a8)(m q:Nat):(a.add m).add q=a.add (m+q):=by by_cases e:m=0 <;> by_cases f:q=0 <;> simp [iS,e,f,Nat.add_assoc]
theorem Own.tk0 {s:Nat}(h:Own w b t s A n c vs):Own w b t s A 0 c []:=by
 rcases h with⟨h1,h2,j,_⟩ | ⟨g,cs,o,hb,f,hn,e,hl,_⟩
 ·exact bY ⟨h1,rfl,j,rfl⟩
 ·exact cA ⟨g,cs,o,hb,f,cE _,e,hl,by rw [mL];rfl⟩
theorem zL (h:Rv w 3 A 2 c (gF s KA kc))(j:Nat)(hj:j<2):∃p,A.map (·.add (j*3))=some p∧w.cell? p=some ((gF s KA kc).getD (j*3) undef)∧w.cell? (p.add 1)=some ((gF s KA kc).getD (j*3+1) undef)∧w.cell? (p.add 2)=some ((gF s KA kc).getD (j*3+2) undef):=by
 obtain⟨a,o,h0⟩:=h.get (j*3) (by omega)
 obtain⟨_,e,h1⟩:=h.get (j*3+1) (by omega)
 obtain⟨_,f,h2⟩:=h.get (j*3+2) (by omega)
 rw [o] at e f;cases e;cases f
 refine⟨a.add (j*3),by rw [o];rfl,h0,?_,?_⟩
 ·rw [←h1,DC]
 ·rw [←h2,DC]
theorem qZ (h:Rv w 3 A 2 c (gF s KA kc)):∃p,A.map (·.add (0*3))=some p∧w.cell? p=some (a4 3)∧w.cell? (p.add 1)=some (.string (aB s))∧w.cell? (p.add 2)=some (a9 none 0 0):=zL h 0 (by decide)
theorem uI (h:Rv w 3 A 2 c (gF s KA kc)):∃p,A.map (·.add (1*3))=some p∧w.cell? p=some (a4 12)∧w.cell? (p.add 1)=some (.string (aB [112,114,105,110,116]))∧w.cell? (p.add 2)=some (a9 KA 1 kc):=zL h 1 (by decide)
theorem AQ (h:Rv w 1 A 1 c [a4 0]):∃p,A.map (·.add (0*1))=some p∧w.cell? p=some (a4 0):=by
 obtain⟨a,e,h0⟩:=h.get 0 (by decide)
 exact⟨a.add 0,by rw [e];rfl,h0⟩
def P0 (b:Nat)(v:aC)(w:a6):Prop:=∃A c col,v= a9 A 1 c∧Own w b 97 3 A 1 c [a4 2,.string (aB [112,114,105,110,116]),a4 col]
theorem F8 (h:Rv w 3 A 1 c [x,y,z]):∃p,A.map (·.add (0*3))=some p∧w.cell? p=some x∧w.cell? (p.add 1)=some y∧w.cell? (p.add 2)=some z:=by
 obtain⟨a,j,h0⟩:=h.get 0 (by decide)
 obtain⟨_,e,h1⟩:=h.get 1 (by decide)
 obtain⟨_,f,h2⟩:=h.get 2 (by decide)
 rw [j] at e f;cases e;cases f
 refine⟨a.add (0*3),by rw [j];rfl,h0,?_,?_⟩
 ·rw [←show a.add 1=(a.add (0*3)).add 1 by simp [iS]];exact h1
 ·rw [←show a.add 2=(a.add (0*3)).add 2 by simp [iS]];exact h2
theorem F5 (hm:Mxl w):aU aG 37 #[.string (aB [112,114,105,110,116])] w (Gv w (T3 (P0 w.heap.size) (Is (a4 0)) (Is (a4 0)))):=by
 have h:=BU (l:= [.nam [112,114,105,110,116]]) hm ⟨⟨by decide,by decide,by decide,by decide,fun c F=>by cases F⟩,i3⟩ (fun ds f=>by simp at f) (by decide)
 refine h.mono fun e w' ⟨v,h1,⟨a,b,c,h2,⟨A,n,cc,o,cs,_,D,p⟩,r,j⟩,q⟩=>⟨v,h1,⟨a,b,c,h2,?_,r,j⟩,q⟩
 obtain rfl:n=1:=D.symm
 exact⟨A,cc,cs.getD 0 0,o,p⟩
theorem FY {fc:Nat}(hK:Own w b 3 1 KA 1 kc [a4 0])(hF:Own w b' 3 1 FA 1 fc [a4 0]):aU aG 56 #[a9 KA 1 kc,a9 FA 1 fc] w (Gv w (Is (gx))):=by
 obtain⟨k,rfl⟩:=hK.some_ (by decide)
 obtain⟨f,rfl⟩:=hF.some_ (by decide)
 have cell:∀{q c b:Nat},Own w b 3 1 (some ⟨q,0,none⟩) 1 c [a4 0]→∀j,j< [(0:Int)].length→w.cell? ⟨q,0+j,none⟩=some (a4 ([(0:Int)].getD j 0)):=fun h j o=>by
  obtain rfl:j=0:=by simp at o;exact o
  obtain⟨a,p,h0⟩:=h.rv.get 0 (by decide)
  cases p
  exact h0
 refine (Tryz.slices_Equal_int k 0 1 kc f 0 1 fc [0] [0] w (by decide) (by decide) (by decide) (by decide) (cell hK) (cell hF)).mono fun e w' ⟨h1,q,h2⟩=>⟨_,h1,rfl,by rw [h2];exact (Ext.refl w).drewN q⟩
theorem FX:aU aG 56 #[a9 none 0 0,a9 none 0 0] w (Gv w (Is (gx))):=
 (Tryz.slices_Equal_int_empty none none 0 0 0 w (by decide)).mono fun e w' ⟨h1,h2⟩=>⟨_,h1,rfl,by rw [h2];exact Ext.refl w⟩
theorem KR:aU aG 53 #[a4 3] w (Gv w (Is (ik))):=by
 refine bJ Tryz.func53 E (n:=13) E (bq E) (args:= [a4 3]) (bH [(0,a4 3)] ⟨rfl,i3⟩ (sr (mv 1 E (a7 (sr (mv 1 E (aA E E E false (by decide) (mv 2 E (aA E E E false (by decide) (pu (v:= ik) E (mv 2 E (aA E E E false (by decide) (pu (v:= ik) E ?_)))))))))))))
 refine mv 1 E (a7 (aW (aV [F0] E ⟨rfl,i3⟩ ?_)))
 exact⟨_,rfl,rfl,aF⟩
theorem KS:aU aG 53 #[a4 12] w (Gv w (Is (gx))):=by
 refine bJ Tryz.func53 E (n:=13) E (bq E) (args:= [a4 12]) (bH [(0,a4 12)] ⟨rfl,i3⟩ (sr (mv 1 E (a7 (sr (mv 1 E (aA E E E false (by decide) (mv 2 E (aA E E E true (by decide) (pu (v:= gx) E (mv 3 E (pu (v:= gx) E (mv 1 E ?_)))))))))))))
 refine a7 (aW (aV [gx] E ⟨rfl,i3⟩ ?_))
 exact⟨_,rfl,rfl,aF⟩
theorem M9:aU aG 54 #[a4 3,a4 0] w (Gv w (Is (gx))):=by
 refine bJ Tryz.func54 E (n:=33) E (bq E) (args:= [a4 3,I0]) (bH [(0,a4 3),(1,a4 0)] ⟨rfl,rfl,i3⟩ (sr (mv 1 E (a7 (aD (sr (mv 1 E (a7 (bI (aD (sr (aA E E E false (by decide) (mv 1 E ?_)))))))))))))
 refine a7 (aI E (sr (aA E E E false (by decide) (mv 1 E (a7 (aI E (sr (aA E E E true (by decide) (mv 1 E (a7 (b8 E (aY (aJ ?_)))))))))))))
 refine b8 E (sr (mv 1 E (aA E E E true (by decide) (mv 1 E (a7 (aW (bZ (bO (aV [gx] E ⟨rfl,i3⟩ ?_)))))))))
 exact⟨_,rfl,rfl,aF⟩
theorem MA:aU aG 54 #[a4 12,a4 1] w (Gv w (Is (gx))):=by
 refine bJ Tryz.func54 E (n:=33) E (bq E) (args:= [a4 12,a4 1]) (bH [(0,a4 12),(1,a4 1)] ⟨rfl,rfl,i3⟩ (sr (mv 1 E (a7 (aD (sr (mv 1 E (a7 (bI (aD (sr (aA E E E false (by decide) (mv 1 E ?_)))))))))))))
 refine a7 (aI E (sr (aA E E E false (by decide) (mv 1 E (a7 (aI E (sr (aA E E E false (by decide) (mv 1 E (a7 (aI E (sr (aA E E E false (by decide) ?_)))))))))))))
 refine mv 1 E (a7 (aI E (aE (aA E E E false (by decide) (mv 1 E (a7 (aI E (aD (sr (aA E E E false (by decide) (mv 1 E (a7 (aI E ?_)))))))))))))
 refine sr (aA E E E false (by decide) (mv 1 E (a7 (aI E (sr (aA E E E false (by decide) (mv 1 E (a7 (aI E (aE (aA E E E false (by decide) (mv 1 E (bA ?_)))))))))))))
 refine aJ (aI E (aD (sr (aA E E E false (by decide) (mv 1 E (a7 (aI E (sr (aA E E E false (by decide) (mv 1 E (a7 (aI E (aE ?_)))))))))))))
 refine aA E E E false (by decide) (mv 1 E (a7 (aI E (sr (aA E E E false (by decide) (mv 1 E (a7 (aI E (sr (aA E E E true (by decide) (mv 1 E (a7 (b8 E ?_)))))))))))))
 refine sr (mv 1 E (a7 (aW (bZ (bO (aV [gx] E ⟨rfl,i3⟩ ?_))))))
 exact⟨_,rfl,rfl,aF⟩
theorem LV:aU aG 81 #[a4 12,a4 0,a4 3] w (Gv w (Is (ik))):=by
 refine bJ Tryz.func81 E (n:=46) E (bq E) (args:= [a4 12,I0,a4 3]) (bH [(0,a4 12),(1,a4 0),(2,a4 3)] ⟨rfl,rfl,rfl,i3⟩ (sr (mv 1 E (a7 (aD (sr (mv 1 E (a7 (bI (aD (sr (aA E E E false (by decide) (mv 1 E ?_)))))))))))))
 refine a7 (aI E (aE (aA E E E false (by decide) (mv 1 E (a7 (aI E (sr (aA E E E false (by decide) (mv 1 E (a7 (aI E (sr (aA E E E false (by decide) ?_)))))))))))))
 refine mv 1 E (a7 (aI E (aD (sr (aA E E E false (by decide) (mv 1 E (a7 (aI E (aE (aA E E E false (by decide) (mv 1 E (a7 (aI E ?_)))))))))))))
 refine aY (bU (aJ (sr (mv 1 E (a7 (aW (aV [F0] E ⟨rfl,i3⟩ ?_)))))))
 exact⟨_,rfl,rfl,aF⟩
theorem LN (hm:Mxl w):aU aG 78 #[.string (aB ([112,114,105,110,116]))] w (Gv w (Is (gx))):=by
 refine bJ Tryz.func78 E (n:=34) E (bq E) (args:= [.string (aB ([112,114,105,110,116]))]) (bH [(0,.string (aB ([112,114,105,110,116])))] ⟨rfl,i3⟩ (sr (mv 1 E (a7 (sr (mv 1 E (cl (vs:= [.string (aB ([112,114,105,110,116]))]) aF (F5 hm) E (by kernel_rfl) fun _ _ p _ h=>?_)))))))
 obtain⟨_,_,_,rfl,⟨TA,tc,cq,rfl,q⟩,rfl,rfl⟩:=p
 refine mv 1 E (pu (v:= a9 TA 1 tc) E (pu (v:= a4 0) E (pu (v:= a4 0) E (mv 3 E (a7 (sr (mv 1 E (aA E E E true (by decide) (mv 2 E (pu (v:= a4 1) E (aA E E E true (by decide) (pu (v:= gx) E (mv 1 E ?_)))))))))))))
 refine mv 1 E ?_
 obtain⟨f,e,j,o,_⟩:=F8 ((q).rv)
 refine cG E E E Tryz.underlying62 m3 0 E f e (pu (v:= .pointer (some f)) E (aH E E (cO (fun _=>by kernel_rfl) j) (aA E E E true (by decide) (pu (v:= gx) E (mv 2 E (cG E E E Tryz.underlying62 m3 0 E f e (pu (v:= .pointer (some (f.add 1))) E (aH E E (cO (fun _=>by kernel_rfl) o) (mv 1 E (iD (a:= [112,114,105,110,116]) (b:= [112,114,105,110,116]) E E E (by decide) true (oH (E)) (pu (v:= gx) E (mv 1 E (bA ?_)))))))))))))
 refine aJ (aW (aV [gx] E ⟨rfl,i3⟩ ?_))
 exact⟨_,rfl,rfl,h⟩
theorem KP (hm:Mxl w)(hS:Signs w)(hR':R≤64)(hC:C≤64)(hzl:zs.length=R*C)(hK:∀z,z∈zs→ln z≤1048576):aU aG 55 #[.agg #[a4 3,.string (aB (bR (aT 10) R C zs)),a9 none 0 0]] w (Gv w (Is (gx))):=by
 refine bJ Tryz.func55 E (n:=72) E (bq E) (args:= [.agg #[a4 3,.string (aB (bR (aT 10) R C zs)),S0]]) (bH [(0,.agg #[a4 3,.string (aB (bR (aT 10) R C zs)),S0])] ⟨rfl,i3⟩ (sr (bx [a4 3,.string (aB (bR (aT 10) R C zs)),S0] aF E E E fun V _ j _ _ L=>(mv 1 E (a7 (aD (sr (pf V 0 E (aH E E (aS bL j E) (a7 (bI (aD (aD ?_)))))))))))))
 refine aE (aA E E E false (by decide) (mv 1 E (a7 (aI E (aE (aA E E E false (by decide) (mv 1 E (a7 (aI E (aD (sr (aA E E E false (by decide) (mv 1 E ?_)))))))))))))
 refine a7 (aI E (sr (aA E E E false (by decide) (mv 1 E (a7 (aI E (aE (aA E E E false (by decide) (mv 1 E (a7 (aI E (sr (aA E E E false (by decide) ?_)))))))))))))
 refine mv 1 E (a7 (aI E (sr (aA E E E true (by decide) (mv 1 E (a7 (b8 E (sr (pf V 1 E (aH E E (aS (fun _=>by kernel_rfl) j E) (cl (vs:= [.string (aB (bR (aT 10) R C zs))]) L (C2 (hm.ext L) hR' hC hzl hK) E (by kernel_rfl) fun _ _ r8 e7 F=>?_)))))))))))
 obtain⟨_,_,rfl,⟨_,rfl,⟨e,f,rfl,h⟩⟩,r9_1⟩:=r8
 have Y:=h.block
 obtain rfl:=r9_1
 refine mv 1 E (pu (v:= .agg #[a4 R,a4 C,a9 e (R*C) f]) E (pu (v:= a4 0) E (eK E (z:= .agg #[I0,I0,S0]) (vs:= [I0,I0,S0]) (fun _=>by kernel_rfl) E fun r _ nb=>?_)))
 have o:=nb.bk
 have M:w.heap.size≤r:=by rw [←nb.at_];exact F.size
 have ae:V<r:=by rw [←nb.at_];exact (j.ext e7).lt
 have U:∀p:a8,e=some p→p.block≠r:=fun p hp=>by have:=(h).block p hp;have:=nb.at_;omega
 have q:=nb.ext
 clear nb
 have W:=F.trans q
 refine so dP o [a4 R,a4 C,a9 e (R*C) f] W M E E E E fun _ H O D=>(mv 1 E (a7 (aD (sr (mv 1 E (aA E E E false (by decide) (a7 (aI E (aY (aJ (sr (lo dP H [a4 R,a4 C,a9 e (R*C) f] E E E ?_))))))))))))
 have I:=((h.ext q).updT o O U)
 refine cl (vs:= [.agg #[a4 R,a4 C,a9 e (R*C) f]]) D (pD (hS.ext D) I.zf0 hR' hC (by omega)) E (by kernel_rfl) fun _ _ X Z aa=>?_
 obtain⟨_,_,rfl,rfl,rfl⟩:=X
 refine mv 1 E (pu (v:= .string (aB (bR (aT 10) R C zs))) E (pu (v:= a4 0) E (mv 2 E (a7 (sr (mv 1 E (pf V 1 E (aH E E (aS (fun _=>by kernel_rfl) (((j.ext (e7.t q)).vN O).ext Z) E) (iD (a:=bR (aT 10) R C zs) (b:=bR (aT 10) R C zs) E E E (fun b hb=>kQ (m8 gK b hb) (by decide)) true (oH (E)) (mv 1 E (a7 (aW (bZ ?_)))) (hb:=(fun b hb=>kQ (m8 gK b hb) (by decide))))))))))))
 refine bO (aV [gx] E ⟨rfl,i3⟩ ?_)
 exact⟨_,rfl,rfl,aa⟩
theorem KO (hm:Mxl w):aU aG 55 #[.agg #[a4 12,.string (aB ([112,114,105,110,116])),a9 KA 1 kc]] w (Gv w (Is (gx))):=by
 refine bJ Tryz.func55 E (n:=72) E (bq E) (args:= [.agg #[a4 12,.string (aB ([112,114,105,110,116])),a9 KA 1 kc]]) (bH [(0,.agg #[a4 12,.string (aB ([112,114,105,110,116])),a9 KA 1 kc])] ⟨rfl,i3⟩ (sr (bx [a4 12,.string (aB ([112,114,105,110,116])),a9 KA 1 kc] aF E E E fun h _ e _ _ f=>(mv 1 E (a7 (aD (sr (pf h 0 E (aH E E (aS bL e E) (a7 (bI (aD (aD ?_)))))))))))))
 refine aE (aA E E E false (by decide) (mv 1 E (a7 (aI E (aE (aA E E E false (by decide) (mv 1 E (a7 (aI E (aD (sr (aA E E E false (by decide) (mv 1 E ?_)))))))))))))
 refine a7 (aI E (sr (aA E E E false (by decide) (mv 1 E (a7 (aI E (aE (aA E E E false (by decide) (mv 1 E (a7 (aI E (sr (aA E E E true (by decide) ?_)))))))))))))
 refine mv 1 E (a7 (b8 E (sr (pf h 1 E (aH E E (aS (fun _=>by kernel_rfl) e E) (cl (vs:= [.string (aB ([112,114,105,110,116]))]) f (LN (hm.ext f)) E (by kernel_rfl) fun _ _ p o j=>?_))))))
 obtain rfl:=p
 refine mv 1 E (pf h 1 E (aH E E (aS (fun _=>by kernel_rfl) (e.ext o) E) (iD (a:= [112,114,105,110,116]) (b:= [108,101,116]) E E E (by decide) true (FK (by decide)) (pu (v:= gx) E (mv 1 E (a7 (aW (bZ (bO (aV [gx] E ⟨rfl,i3⟩ ?_))))))))))
 exact⟨_,rfl,rfl,j⟩
theorem M6 (hm:Mxl w)(hS:Signs w)(hR':R≤64)(hC:C≤64)(hzl:zs.length=R*C)(hK:∀z,z∈zs→ln z≤1048576)(hN:Own w bN 40 3 NA 2 nc (gF (bR (aT 10) R C zs) KA kc))(hKo:Own w bN 3 1 KA 1 kc [a4 0]):aU aG 28 #[a9 NA 2 nc] w (Gv w (Is (gx))):=by
 refine bJ Tryz.func28 E (n:=67) E (bq E) (args:= [a9 NA 2 nc]) (bH [(0,a9 NA 2 nc)] ⟨rfl,i3⟩ (sr (mv 1 E (a7 (sr (mv 1 E (a7 (aD (sr (mv 1 E (pu (v:= a4 2) E (mv 1 E (bA ?_)))))))))))))
 refine aJ (bI ?_)
 refine dJ (T:=a6×Nat×Option a8×Nat×Nat) (fun⟨wr,i,FA,fn,fc⟩=> [(0,a9 NA 2 nc),(3,a9 FA fn fc),(7,a9 NA 2 nc),(8,a4 2),(9,a4 i)]) (fun⟨wr,i,FA,fn,fc⟩=>wr) (fun⟨wr,i,FA,fn,fc⟩=>(Ext w wr)∧((i=0∧FA=none∧fn=0∧fc=0)∨(i=1∧fn=1∧Own wr w.heap.size 3 1 FA 1 fc [I0])∨(i=2∧fn=1))) (fun⟨wr,i,FA,fn,fc⟩=>2-i)
  (⟨w,0,none,0,0⟩:a6×Nat×Option a8×Nat×Nat) ⟨aF,bY ⟨rfl,rfl,rfl,rfl⟩⟩ E ⟨rfl,rfl,rfl,rfl,rfl,i3⟩ ?_
 rintro⟨wr,i,FA,fn,fc⟩ ⟨q,hI⟩
 rcases hI with⟨rfl,rfl,rfl,rfl⟩ | ⟨rfl,rfl,hF⟩ | ⟨rfl,rfl⟩
 ·refine d9 [(0,a9 NA 2 nc),(3,a9 none 0 0),(7,a9 NA 2 nc),(8,a4 2),(9,a4 0)] wr E ⟨rfl,rfl,rfl,rfl,rfl,i3⟩ (sr (aA E E E true (by decide) (a7 (aD (b8 E (aY (aJ (aD (bI (sr (mv 1 E ?_)))))))))))
  obtain⟨p1,dh,dw,dl,dr⟩:=qZ (((hN.ext q)).rv)
  refine cG E E E Tryz.underlying35 iG 0 E p1 dh (aH E E (j1 iN dw dl dr) (eK E (z:= .agg #[I0,.string (aB ([])),S0]) (vs:= [I0,.string (aB ([])),S0]) (fun _=>by kernel_rfl) E fun g2 _ nb=>?_))
  have dm:=nb.bk
  have cx:w.heap.size≤g2:=by rw [←nb.at_];exact q.size
  have cb:∀p:a8,NA=some p→p.block<g2:=fun p r=>by have:=(((hN.ext q)).block p r).2;have:=nb.at_;omega
  have ec:∀p:a8,NA=some p→p.block≠g2:=fun p r=>Nat.ne_of_lt (cb p r)
  have ci:∀p:a8,KA=some p→p.block<g2:=fun p r=>by have:=(((hKo.ext q)).block p r).2;have:=nb.at_;omega
  have eb:∀p:a8,KA=some p→p.block≠g2:=fun p r=>Nat.ne_of_lt (ci p r)
  have e4:=nb.ext
  clear nb
  have av:=q.trans e4
  refine mv 1 E (so iN dm [a4 3,.string (aB (bR (aT 10) R C zs)),S0] av cx E E E E fun _ F _ au=>(a7 (sr (pf g2 2 E (aH E E (aS (fun _=>by kernel_rfl) F E) (pu (v:= a4 0) E (mv 1 E (a7 (aD (sr (pf g2 0 E (aH E E (aS bL F E) (bC E E (vs:= [a4 3]) (by kernel_rfl) (by decide) KR ?_)))))))))))))
  rintro _ _ ⟨_,rfl,dg,X⟩
  refine bB ?_
  have aq:=au.trans X
  obtain rfl:=dg
  refine mv 2 E (pu (v:= a4 2) E (bF E E E 1 (show dD .sub .i64 2 1=some 1 by decide) (aA E E E false (by decide) (pu (v:= ik) E (mv 1 E (pf g2 0 E (aH E E (aS bL (F.ext X) E) (mv 1 E (bC E E (vs:= [a4 3,I0]) (by kernel_rfl) (by decide) M9 ?_)))))))))
  rintro _ _ ⟨_,rfl,dd,ag⟩
  refine bB ?_
  have U:=aq.trans ag
  obtain rfl:=dd
  refine pu (v:= ik) E (pu (v:= ik) E (mv 3 E (pu (v:= a4 0) E (aA E E E false (by decide) (pu (v:= ik) E (mv 1 E (lo iN (F.ext (X.t ag)) [a4 3,.string (aB (bR (aT 10) R C zs)),S0] E E E (cl (vs:= [.agg #[a4 3,.string (aB (bR (aT 10) R C zs)),S0]]) U (KP (hm.ext U) (hS.ext U) hR' hC hzl hK) E (by kernel_rfl) fun _ _ du co V=>?_))))))))
  obtain rfl:=du
  refine pu (v:= ik) E (pu (v:= ik) E (a7 (aI E (aY (aJ (aD (aD ?_)))))))
  refine fG eR 10 [] [Is (a1 g2 2),Is (a9 none 0 0),Is (a9 none 0 0),Is (a9 none 0 0),Is (a4 0),Is (a4 0),Is (a4 0),Is (a9 none 0 0),Is (gx),Is (ik)] [[],[0],[],[],[3],[],[4,5],[2,6],[1,7],[8]] [[],[0],[],[],[3],[],[3,4,5],[2,3,4,5,6],[0,1,2,3,4,5,6,7],[0,1,2,3,4,5,6,7,8]] rfl
   (aP E E (aK E E ?_) (aP E E (aK E E ?_) (aP E E (aK E E ?_) (aP E E (aK E E ?_) (aP E E (aK E E ?_) (aP E E (aK E E ?_) (aP E E (aK E E ?_) (aP E E (aK E E ?_) (aP E E (aK E E ?_) (aP E E (aK E E ?_) fE)))))))))) ?_
  ·exact fun _ _=>aL (pf g2 2 E (aO E aF E))
  ·exact fun _ dq=>dk E E (aL (aH E E (aS (fun _=>by kernel_rfl) (F.ext (X.t (ag.t (co.t dq)))) E) (aO E aF E)))
  ·exact fun _ _=>aL (mv 1 E (aO E aF E))
  ·exact fun _ _=>aL (mv 1 E (aO E aF E))
  ·exact fun _ _=>dk E E (aL (pu (v:= a4 0) E (aO E aF E)))
  ·exact fun _ _=>aL (mv 1 E (aO E aF E))
  ·exact fun _ _=>dk E E (dk E E (aL (bF E E E 0 (show dD .sub .i64 0 0=some 0 by decide) (aO E aF E))))
  ·exact fun _ _=>dk E E (dk E E (aL (kA E E l4 gU (lo:=0) (hi:=0) E E (by omega) (aZ 0) (v:= a9 none 0 0) (nA _ _ _) (by decide) (aO E aF E))))
  ·intro _ cz
   have L:=V.trans cz
   refine dk E E (dk E E (aL (bC E E (vs:= [S0,S0]) (by kernel_rfl) (by decide) FX ?_)))
   rintro _ _ ⟨_,rfl,dt,cu⟩
   refine bB ?_
   have M:=L.trans cu
   obtain rfl:=dt
   exact aO E cu rfl
  ·exact fun _ _=>dk E E (aL (pu (v:= ik) E (aO E aF E)))
  ·intro _ bz
   have L:=V.trans bz
   refine dk E E (dk E E (dk E E (dk E E (dk E E (dk E E (dk E E (dk E E (dk E E (dk E E (aL (bA (fF (aJ ?_)))))))))))))
   refine aI E (aY (aJ (aE (mv 2 E (pu (v:= a4 0) E (mv 1 E (bF E E E 0 (show dD .sub .i64 0 0=some 0 by decide) (kA E E l4 gU (lo:=0) (hi:=0) E E (by omega) (by omega) (v:= a9 none 0 0) (nA _ _ _) (by decide) (mv 1 E (dN E E (k:=1) (e:=3) [I0] (fun _=>by kernel_rfl) fun _ ch nb=>?_))))))))))
   have bh:=nb.bk
   have ak:=nb.ext
   clear nb
   have M:=L.trans ak
   have W:Own ch w.heap.size 3 1 none 0 0 []:=Own.nil _ _ _ _
   refine fB E E E l4 rI E W M.size [I0] E (iI bh) E fun ce cr bw ao ay aw=>?_
   have ar:=ay.ext M (fun p r=>(W.block p r).1)
   have df:=AR aw (F.ext (X.t (ag.t (co.t (bz.t ak))))).lt
   refine mv 1 E (bA (bU (aJ (aE (bF E E E 1 (show dD .add .i64 0 1=some 1 by decide) (mv 1 E (bA (cW (⟨bw,1,ce,1,cr⟩:a6×Nat×Option a8×Nat×Nat) ⟨ar,cA (bY ⟨rfl,rfl,ao⟩)⟩ (by show 2-1<2-0;decide) E ⟨rfl,rfl,rfl,rfl,rfl,i3⟩))))))))
 ·refine d9 [(0,a9 NA 2 nc),(3,a9 FA 1 fc),(7,a9 NA 2 nc),(8,a4 2),(9,a4 1)] wr E ⟨rfl,rfl,rfl,rfl,rfl,i3⟩ (sr (aA E E E true (by decide) (a7 (aD (b8 E (aY (aJ (aD (bI (sr (mv 1 E ?_)))))))))))
  obtain⟨bm,bf,az,ap,bj⟩:=uI (((hN.ext q)).rv)
  refine cG E E E Tryz.underlying35 iG 1 E bm bf (aH E E (j1 iN az ap bj) (eK E (z:= .agg #[I0,.string (aB ([])),S0]) (vs:= [I0,.string (aB ([])),S0]) (fun _=>by kernel_rfl) E fun f _ nb=>?_))
  have D:=nb.bk
  have am:w.heap.size≤f:=by rw [←nb.at_];exact q.size
  have ai:∀p:a8,NA=some p→p.block<f:=fun p r=>by have:=(((hN.ext q)).block p r).2;have:=nb.at_;omega
  have da:∀p:a8,NA=some p→p.block≠f:=fun p r=>Nat.ne_of_lt (ai p r)
  have ah:∀p:a8,KA=some p→p.block<f:=fun p r=>by have:=(((hKo.ext q)).block p r).2;have:=nb.at_;omega
  have de:∀p:a8,KA=some p→p.block≠f:=fun p r=>Nat.ne_of_lt (ah p r)
  have aj:∀p:a8,FA=some p→p.block<f:=fun p r=>by have:=((hF).block p r).2;have:=nb.at_;omega
  have bg:∀p:a8,FA=some p→p.block≠f:=fun p r=>Nat.ne_of_lt (aj p r)
  have I:=nb.ext
  clear nb
  have av:=q.trans I
  refine mv 1 E (so iN D [a4 12,.string (aB ([112,114,105,110,116])),a9 KA 1 kc] av am E E E E fun _ j O au=>(a7 (sr (pf f 2 E (aH E E (aS (fun _=>by kernel_rfl) j E) (pu (v:= a4 1) E (mv 1 E (a7 (aD (sr (pf f 0 E (aH E E (aS bL j E) (bC E E (vs:= [a4 12]) (by kernel_rfl) (by decide) KS ?_)))))))))))))
  rintro _ _ ⟨_,rfl,bu,h⟩
  refine bB ?_
  have aq:=au.trans h
  obtain rfl:=bu
  refine mv 2 E (pu (v:= a4 2) E (bF E E E 1 (show dD .sub .i64 2 1=some 1 by decide) (aA E E E true (by decide) (pu (v:= ik) E (mv 1 E (pf f 0 E (aH E E (aS bL (j.ext h) E) (mv 1 E (bC E E (vs:= [a4 12,a4 1]) (by kernel_rfl) (by decide) MA ?_)))))))))
  rintro _ _ ⟨_,rfl,cj,o⟩
  refine bB ?_
  have U:=aq.trans o
  obtain rfl:=cj
  refine pu (v:= ik) E (pu (v:= ik) E (mv 3 E (pu (v:= a4 1) E (aA E E E false (by decide) (pu (v:= ik) E (mv 1 E (lo iN (j.ext (h.t o)) [a4 12,.string (aB ([112,114,105,110,116])),a9 KA 1 kc] E E E (cl (vs:= [.agg #[a4 12,.string (aB ([112,114,105,110,116])),a9 KA 1 kc]]) U (KO (hm.ext U)) E (by kernel_rfl) fun _ _ bo H V=>?_))))))))
  obtain rfl:=bo
  refine pu (v:= ik) E (pu (v:= ik) E (a7 (aI E (aY (aJ (aD (aD ?_)))))))
  refine fG eR 10 [] [Is (a1 f 2),Is (a9 KA 1 kc),Is (a9 FA 1 fc),Is (a9 FA 1 fc),Is (a4 1),Is (a4 1),Is (a4 0),Is (a9 FA 1 fc),Is (gx),Is (ik)] [[],[0],[],[],[3],[],[4,5],[2,6],[1,7],[8]] [[],[0],[],[],[3],[],[3,4,5],[2,3,4,5,6],[0,1,2,3,4,5,6,7],[0,1,2,3,4,5,6,7,8]] rfl
   (aP E E (aK E E ?_) (aP E E (aK E E ?_) (aP E E (aK E E ?_) (aP E E (aK E E ?_) (aP E E (aK E E ?_) (aP E E (aK E E ?_) (aP E E (aK E E ?_) (aP E E (aK E E ?_) (aP E E (aK E E ?_) (aP E E (aK E E ?_) fE)))))))))) ?_
  ·exact fun _ _=>aL (pf f 2 E (aO E aF E))
  ·exact fun _ cd=>dk E E (aL (aH E E (aS (fun _=>by kernel_rfl) (j.ext (h.t (o.t (H.t cd)))) E) (aO E aF E)))
  ·exact fun _ _=>aL (mv 1 E (aO E aF E))
  ·exact fun _ _=>aL (mv 1 E (aO E aF E))
  ·exact fun _ _=>dk E E (aL (pu (v:= a4 1) E (aO E aF E)))
  ·exact fun _ _=>aL (mv 1 E (aO E aF E))
  ·exact fun _ _=>dk E E (dk E E (aL (bF E E E 0 (show dD .sub .i64 1 1=some 0 by decide) (aO E aF E))))
  ·exact fun _ bv=>dk E E (dk E E (aL (kA E E l4 gU (lo:=0) (hi:=1) E E (by omega) (((((hF.ext I).updT D (by decide) O).ext (h.t (o.t (H.t bv))))).rv.le) (v:= a9 FA 1 fc) (nA _ _ _) (by decide) (aO E aF E))))
  ·intro _ Y
   have L:=V.trans Y
   refine dk E E (dk E E (aL (cl (vs:= [a9 KA 1 kc,a9 FA 1 fc]) L (FY (((((hKo.ext q).ext I).updT D (by decide) O).ext (h.t (o.t (H.t Y))))) ((((hF.ext I).updT D (by decide) O).ext (h.t (o.t (H.t Y)))))) E (by kernel_rfl) fun _ _ cg br M=>?_)))
   obtain rfl:=cg
   exact aO E br rfl
  ·exact fun _ _=>dk E E (aL (pu (v:= ik) E (aO E aF E)))
  ·intro _ aa
   have L:=V.trans aa
   refine dk E E (dk E E (dk E E (dk E E (dk E E (dk E E (dk E E (dk E E (dk E E (dk E E (aL (bA (fF (aJ ?_)))))))))))))
   refine aI E (aY (aJ (aE (mv 2 E (pu (v:= a4 1) E (mv 1 E (bF E E E 0 (show dD .sub .i64 1 1=some 0 by decide) ?_)))))))
   have ax:=((((hF.ext I).updT D (by decide) O).ext (h.t (o.t (H.t aa))))).tk0
   refine kA E E l4 gU (lo:=0) (hi:=0) E E (by omega) (by omega) (v:= a9 FA 0 fc) (nA _ _ _) (by decide) (mv 1 E (dN E E (k:=1) (e:=3) [a4 1] (fun _=>by kernel_rfl) fun _ _ nb=>?_))
   have bd:=nb.bk
   have Z:=nb.ext
   clear nb
   have M:=L.trans Z
   have ab:=(ax.ext Z)
   refine fB E E E l4 rI E ab M.size [a4 1] E (iI bd) E fun ck cm cf _ bi ba=>?_
   have ar:=bi.ext M (fun p r=>(ab.block p r).1)
   have dx:=jI ba (j.ext (h.t (o.t (H.t (aa.t Z))))).lt bg
   refine mv 1 E (bA (bU (aJ (aE (bF E E E 2 (show dD .add .i64 1 1=some 2 by decide) (mv 1 E (bA (cW (⟨cf,2,ck,1,cm⟩:a6×Nat×Option a8×Nat×Nat) ⟨ar,cA (cA ⟨rfl,rfl⟩)⟩ (by show 2-2<2-1;decide) E ⟨rfl,rfl,rfl,rfl,rfl,i3⟩))))))))
 ·refine d9 [(0,a9 NA 2 nc),(3,a9 FA 1 fc),(7,a9 NA 2 nc),(8,a4 2),(9,a4 2)] wr E ⟨rfl,rfl,rfl,rfl,rfl,i3⟩ (sr (aA E E E false (by decide) (a7 (aD (aI E (dA (d7 (dG (d8 (aJ (sr (mv 1 E (pu (v:= a4 1) E ?_)))))))))))))
  refine aA E E E true (by decide) (mv 1 E (a7 (aW (aV [gx] E ⟨rfl,i3⟩ ?_))))
  exact⟨_,rfl,rfl,q⟩
section
variable {w w':a6}{g b:Nat}{tv:aC}{bs:List Nat}
theorem WrB.ext (h:WrB w g b tv bs)(e:Ext w w'):WrB w' g b tv bs:=by
 obtain⟨A,n,c,pv,h1,h2,j,f⟩:=h
 exact⟨A,n,c,pv,h1.ext e,h2,j.ext e,f⟩
theorem WrB.upd1 (h:WrB w g b tv bs)(hb:Bk w k T us)(hT:5≠T)(u:Upd k w w')(hg:g≠k):WrB w' g b tv bs:=by
 obtain⟨A,n,c,pv,h1,h2,f,e⟩:=h
 exact⟨A,n,c,pv,h1.upd u hg,h2,f.updT hb hT u,e⟩
theorem Uq.then_upd (h:Uq g b w v)(u:Upd k v w')(hk:w.heap.size≤k):Uq g b w w':=
 ⟨u.by_.os.trans h.os,u.by_.tape.trans h.tape,u.by_.output.trans h.output,aN h.size u.by_.size,fun i hi hl=>(u.by_.block i (cU hl h.size) (fun e=>by injection e with e;omega)).trans (h.low i hi hl),fun x h1 h2=>(h.bk x h1 h2).upd u (by have:=x.lt;omega)⟩
theorem WrB.lt (h:WrB w g b tv bs):g<w.heap.size:=by obtain⟨_,_,_,_,h1,_⟩:=h;exact h1.lt
theorem WrB.tree (h:WrB w g b tv bs):w.cell? ⟨g,0,none⟩=some tv:=by obtain⟨_,_,_,_,h1,_⟩:=h;exact h1.cell (i:=0) (by simp)
theorem WrB.most (h:WrB w g b tv bs):w.cell? ⟨g,4,none⟩=some (a4 0):=by obtain⟨_,_,_,_,h1,_⟩:=h;exact h1.cell (i:=4) (by simp)
end
theorem LK (hW:WrB w g b (a9 NA 2 nc) bs)(hbw:b≤w.heap.size)(hN:Own w bN 40 3 NA 2 nc (gF s KA kc))(hKo:Own w bN 3 1 KA 1 kc [a4 0])(_hNg:∀p,NA=some p→p.block≠g)(_hKg:∀p,KA=some p→p.block≠g)(hs:∀x,x∈s→x<256)(hlen:bs.length+s.length+6≤1099511627776):aU aG 29 #[a1 g 0,a4 0] w (fun e w'=>e= .returned (.tuple #[])∧Uq g b w w'∧WrB w' g b (a9 NA 2 nc) (bs++s)):=by
 refine bJ Tryz.func29 E (n:=125) E (bq E) (args:= [a1 g 0,I0]) ?_
 have aw:=hW.lt
 refine bH [(0,a1 g 0),(1,a4 0)] ⟨rfl,rfl,i3⟩ (sr (iE E E (vs:= [a1 g 0]) E fun M v2 nb=>?_))
 have H:=nb.bk
 have bi:w.heap.size≤M:=by rw [←nb.at_];exact (Uq.refl g b w).size
 have V:∀p:a8,NA=some p→p.block<M:=fun p h=>by have:=((hN).block p h).2;have:=nb.at_;omega
 have bm:∀p:a8,NA=some p→p.block≠M:=fun p h=>Nat.ne_of_lt (V p h)
 have ab:∀p:a8,KA=some p→p.block<M:=fun p h=>by have:=((hKo).block p h).2;have:=nb.at_;omega
 have bu:∀p:a8,KA=some p→p.block≠M:=fun p h=>Nat.ne_of_lt (ab p h)
 have O:=nb.ext
 clear nb
 have Y:Uq g b w v2:=(Uq.refl g b w).trans (Uq.ofExt O)
 refine a7 (sr (aH E E (aS (fun _=>by kernel_rfl) H E) (pf g 0 E (pf g 0 E (aH E E (cO (fun _=>by kernel_rfl) (hW.ext O).tree) (mv 1 E ?_))))))
 obtain⟨p8,ae,ap,bd,ar⟩:=qZ (((hN.ext O)).rv)
 refine cG E E E Tryz.underlying35 iG 0 E p8 ae (aH E E (j1 iN ap bd ar) (eK E (z:= .agg #[I0,.string (aB ([])),S0]) (vs:= [I0,.string (aB ([])),S0]) (fun _=>by kernel_rfl) E fun o ag nb=>?_))
 have q:=nb.bk
 have W:w.heap.size≤o:=by rw [←nb.at_];exact Y.size
 have bj:M<o:=by rw [←nb.at_];exact H.lt
 have I:∀p:a8,NA=some p→p.block<o:=fun p h=>by have:=(((hN.ext O)).block p h).2;have:=nb.at_;omega
 have bg:∀p:a8,NA=some p→p.block≠o:=fun p h=>Nat.ne_of_lt (I p h)
 have L:∀p:a8,KA=some p→p.block<o:=fun p h=>by have:=(((hKo.ext O)).block p h).2;have:=nb.at_;omega
 have bh:∀p:a8,KA=some p→p.block≠o:=fun p h=>Nat.ne_of_lt (L p h)
 have D:=nb.ext
 clear nb
 have am:Uq g b w ag:=Y.trans (Uq.ofExt D)
 refine kX E E E iN E q (bq E) E [a4 3,.string (aB s),S0] E fun ax r F _=>?_
 have j:Uq g b w ax:=Uq.then_upd am F W
 refine a7 (sr (pf o 0 E (aH E E (aS bL r E) (a7 (bI (aD (sr (aA E E E false (by decide) (mv 1 E (a7 (aI E (sr (aA E E E false (by decide) ?_)))))))))))))
 refine mv 1 E (a7 (aI E (aE (aA E E E false (by decide) (mv 1 E (a7 (aI E (sr (aA E E E false (by decide) (mv 1 E (a7 (aI E (aD ?_)))))))))))))
 refine aE (aA E E E false (by decide) (mv 1 E (a7 (aI E (sr (aA E E E false (by decide) (mv 1 E (a7 (aI E (sr (aA E E E false (by decide) (mv 1 E (bA ?_)))))))))))))
 refine aJ (aI E (sr (aA E E E false (by decide) (mv 1 E (a7 (aI E (sr (aA E E E false (by decide) (mv 1 E (a7 (aI E ?_)))))))))))
 refine fG eR 5 [] [Is (a1 g 0),Is (a1 g 0),Is (a1 g 1),Is (a1 o 1),Is (.string (aB s))] [[],[0],[1],[],[3]] [[],[0],[0,1],[],[3],[0,1,2,3,4]] rfl
  (aP E E (aK E E ?_) (aP E E (aK E E ?_) (aP E E (aK E E ?_) (aP E E (aK E E ?_) (aP E E (aK E E ?_) fE))))) ?_
 ·intro au Z
  have f:Uq g b w au:=j.trans (Uq.ofExt Z)
  refine aL (aH E E (aS (fun _=>by kernel_rfl) (((H.ext D).vN F).ext Z) E) ?_)
  exact aO E aF rfl
 ·intro aq ba
  have f:Uq g b w aq:=j.trans (Uq.ofExt ba)
  refine dk E E (aL (pf g 0 E ?_))
  exact aO E aF rfl
 ·intro ah av
  have f:Uq g b w ah:=j.trans (Uq.ofExt av)
  refine dk E E (aL (pf g 1 E ?_))
  exact aO E aF rfl
 ·intro ay aj
  have f:Uq g b w ay:=j.trans (Uq.ofExt aj)
  refine aL (pf o 1 E ?_)
  exact aO E aF rfl
 ·intro bf X
  have f:Uq g b w bf:=j.trans (Uq.ofExt X)
  refine dk E E (aL (aH E E (aS (fun _=>by kernel_rfl) (r.ext X) E) ?_))
  exact aO E aF rfl
 ·intro ai aa
  have f:Uq g b w ai:=j.trans (Uq.ofExt aa)
  refine dk E E (dk E E (dk E E (dk E E (dk E E (aL (bC E E (vs:= [a1 g 1,.string (aB s)]) (by kernel_rfl) (by decide) (C1 (s:=s) (((hW.ext (O.t D)).upd1 q (by decide) F (by omega)).ext aa) (aN hbw f.size) hs (by first | omega | (simp only [cK,cS,List.length_nil];omega))) ?_))))))
  rintro _ ao ⟨rfl,ak,U⟩
  refine bB ?_
  have az:Uq g b w ao:=f.trans ak
  refine bA (fF (bU (jN [] E i3 ?_)))
  exact⟨rfl,az,U⟩
theorem KQ (hW:WrB w g b (a9 NA 2 nc) bs)(hbw:b≤w.heap.size)(hN:Own w bN 40 3 NA 2 nc (gF s KA kc))(hKo:Own w bN 3 1 KA 1 kc [a4 0])(hNg:∀p,NA=some p→p.block≠g)(hKg:∀p,KA=some p→p.block≠g)(hs:∀x,x∈s→x<256)(hlen:bs.length+s.length+6≤1099511627776):aU aG 57 #[a1 g 0,.agg #[a4 12,.string (aB ([112,114,105,110,116])),a9 KA 1 kc],a4 0] w (fun e w'=>e= .returned (.tuple #[])∧Uq g b w w'∧WrB w' g b (a9 NA 2 nc) (bs++s)):=by
 refine bJ Tryz.func57 E (n:=30) E (bq E) (args:= [a1 g 0,.agg #[a4 12,.string (aB ([112,114,105,110,116])),a9 KA 1 kc],I0]) ?_
 have cx:=hW.lt
 refine bH [(0,a1 g 0),(1,.agg #[a4 12,.string (aB ([112,114,105,110,116])),a9 KA 1 kc]),(2,a4 0)] ⟨rfl,rfl,rfl,i3⟩ (sr (iE E E (vs:= [a1 g 0]) E fun g1 v2 nb=>?_))
 have ab:=nb.bk
 have df:w.heap.size≤g1:=by rw [←nb.at_];exact (Uq.refl g b w).size
 have bd:∀p:a8,NA=some p→p.block<g1:=fun p o=>by have:=((hN).block p o).2;have:=nb.at_;omega
 have dh:∀p:a8,NA=some p→p.block≠g1:=fun p o=>Nat.ne_of_lt (bd p o)
 have au:∀p:a8,KA=some p→p.block<g1:=fun p o=>by have:=((hKo).block p o).2;have:=nb.at_;omega
 have dq:∀p:a8,KA=some p→p.block≠g1:=fun p o=>Nat.ne_of_lt (au p o)
 have M:=nb.ext
 clear nb
 have aq:Uq g b w v2:=(Uq.refl g b w).trans (Uq.ofExt M)
 refine iE E E (vs:= [a4 12,.string (aB ([112,114,105,110,116])),a9 KA 1 kc]) E fun O v9 nb=>?_
 have L:=nb.bk
 have dd:w.heap.size≤O:=by rw [←nb.at_];exact aq.size
 have dg:g1<O:=by rw [←nb.at_];exact ab.lt
 have aa:∀p:a8,NA=some p→p.block<O:=fun p o=>by have:=(((hN.ext M)).block p o).2;have:=nb.at_;omega
 have cz:∀p:a8,NA=some p→p.block≠O:=fun p o=>Nat.ne_of_lt (aa p o)
 have ae:∀p:a8,KA=some p→p.block<O:=fun p o=>by have:=(((hKo.ext M)).block p o).2;have:=nb.at_;omega
 have da:∀p:a8,KA=some p→p.block≠O:=fun p o=>Nat.ne_of_lt (ae p o)
 have j:=nb.ext
 clear nb
 have ai:Uq g b w v9:=aq.trans (Uq.ofExt j)
 refine a7 (sr (pf O 2 E (aH E E (aS (fun _=>by kernel_rfl) L E) (mv 1 E ?_))))
 obtain⟨bv,ax,ap⟩:=AQ (((hKo.ext (M.t j))).rv)
 refine cG E E E Tryz.underlying38 gU 0 E bv ax (aH E E (cO (fun _=>by kernel_rfl) ap) (eK E (z:= a4 0) (vs:= [I0]) (fun _=>by kernel_rfl) E fun F cv nb=>?_))
 have I:=nb.bk
 have aw:w.heap.size≤F:=by rw [←nb.at_];exact ai.size
 have dm:O<F:=by rw [←nb.at_];exact L.lt
 have X:∀p:a8,NA=some p→p.block<F:=fun p o=>by have:=(((hN.ext (M.t j))).block p o).2;have:=nb.at_;omega
 have W:∀p:a8,NA=some p→p.block≠F:=fun p o=>Nat.ne_of_lt (X p o)
 have Y:∀p:a8,KA=some p→p.block<F:=fun p o=>by have:=(((hKo.ext (M.t j))).block p o).2;have:=nb.at_;omega
 have ay:∀p:a8,KA=some p→p.block≠F:=fun p o=>Nat.ne_of_lt (Y p o)
 have r:=nb.ext
 clear nb
 have bu:Uq g b w cv:=ai.trans (Uq.ofExt r)
 refine fO E E E m4 E I (bq E) E [I0] E fun ci V D _=>?_
 have f:Uq g b w ci:=Uq.then_upd bu D aw
 refine a7 (aD (aD ?_))
 obtain⟨U,ao,ba,_,_⟩:=qZ ((((hN.ext (M.t (j.t r))).upd D W)).rv)
 refine fG eR 11 [] [Is (a1 O 0),Is (a4 12),Is (a4 0),Is (a1 g 0),Is (a1 g 0),Is (a1 g 0),Is (a9 NA 2 nc),Is (a4 0),Is (.pointer (some U)),Is (.pointer (some U)),Is (a4 3)] [[],[0],[],[],[3],[4],[5],[],[6,7],[8],[9]] [[],[0],[],[],[3],[3,4],[3,4,5],[],[3,4,5,6,7],[3,4,5,6,7,8],[3,4,5,6,7,8,9],[0,1,2,3,4,5,6,7,8,9,10]] rfl
  (aP E E (aK E E ?_) (aP E E (aK E E ?_) (aP E E (aK E E ?_) (aP E E (aK E E ?_) (aP E E (aK E E ?_) (aP E E (aK E E ?_) (aP E E (aK E E ?_) (aP E E (aK E E ?_) (aP E E (aK E E ?_) (aP E E (aK E E ?_) (aP E E (aK E E ?_) fE))))))))))) ?_
 ·intro bm cb
  have h:Uq g b w bm:=f.trans (Uq.ofExt cb)
  refine aL (pf O 0 E ?_)
  exact aO E aF rfl
 ·intro cr ak
  have h:Uq g b w cr:=f.trans (Uq.ofExt ak)
  refine dk E E (aL (aH E E (aS bL (((L.ext r).vN D).ext ak) E) ?_))
  exact aO E aF rfl
 ·intro ce bw
  have h:Uq g b w ce:=f.trans (Uq.ofExt bw)
  refine aL (mv 1 E ?_)
  exact aO E aF rfl
 ·intro ch av
  have h:Uq g b w ch:=f.trans (Uq.ofExt av)
  refine aL (aH E E (aS (fun _=>by kernel_rfl) (((ab.ext (j.t r)).vN D).ext av) E) ?_)
  exact aO E aF rfl
 ·intro bj bi
  have h:Uq g b w bj:=f.trans (Uq.ofExt bi)
  refine dk E E (aL (pf g 0 E ?_))
  exact aO E aF rfl
 ·intro cf bz
  have h:Uq g b w cf:=f.trans (Uq.ofExt bz)
  refine dk E E (aL (pf g 0 E ?_))
  exact aO E aF rfl
 ·intro cm az
  have h:Uq g b w cm:=f.trans (Uq.ofExt az)
  refine dk E E (aL (aH E E (cO (fun _=>by kernel_rfl) (((hW.ext (M.t (j.t r))).upd1 I (by decide) D (by omega)).ext az).tree) ?_))
  exact aO E aF rfl
 ·intro bo ar
  have h:Uq g b w bo:=f.trans (Uq.ofExt ar)
  refine aL (aH E E (aS bL (V.ext ar) E) ?_)
  exact aO E aF rfl
 ·intro cd cu
  have h:Uq g b w cd:=f.trans (Uq.ofExt cu)
  refine dk E E (dk E E (aL (cG E E E Tryz.underlying35 iG 0 E U ao ?_)))
  exact aO E aF rfl
 ·intro br cg
  have h:Uq g b w br:=f.trans (Uq.ofExt cg)
  refine dk E E (aL (pu (v:= .pointer (some U)) E ?_))
  exact aO E aF rfl
 ·intro cj bg
  have h:Uq g b w cj:=f.trans (Uq.ofExt bg)
  refine dk E E (aL (aH E E (cO (fun _=>by kernel_rfl) (bg.cell ba)) ?_))
  exact aO E aF rfl
 ·intro ck H
  have h:Uq g b w ck:=f.trans (Uq.ofExt H)
  refine dk E E (dk E E (dk E E (dk E E (dk E E (dk E E (dk E E (dk E E (dk E E (dk E E (dk E E (aL (bC E E (vs:= [a4 12,I0,a4 3]) (by kernel_rfl) (by decide) LV ?_))))))))))))
  rintro _ am ⟨_,rfl,bh,q⟩
  refine bB ?_
  have ah:Uq g b w am:=h.trans (Uq.ofExt q)
  obtain rfl:=bh
  refine bA (fF (aJ (aI E (aY (aJ (aE (aH E E (aS (fun _=>by kernel_rfl) (((ab.ext (j.t r)).vN D).ext (H.t q)) E) (aH E E (aS bL (V.ext (H.t q)) E) (bC E E (vs:= [a1 g 0,I0]) (by kernel_rfl) (by decide) (LK (((hW.ext (M.t (j.t r))).upd1 I (by decide) D (by omega)).ext (H.t q)) (aN hbw ah.size) ((((hN.ext (M.t (j.t r))).upd D W).ext (H.t q))) ((((hKo.ext (M.t (j.t r))).upd D ay).ext (H.t q))) hNg hKg hs (by first | omega | (simp only [cK,cS,List.length_nil];omega))) ?_)))))))))
  rintro _ aj ⟨rfl,bf,Z⟩
  refine bB ?_
  have co:Uq g b w aj:=ah.trans bf
  refine bA (jN [] E i3 ?_)
  exact⟨rfl,co,Z⟩
theorem KT (hW:WrB w g b (a9 NA 2 nc) bs)(hbw:b≤w.heap.size)(hN:Own w bN 40 3 NA 2 nc (gF s KA kc))(hKo:Own w bN 3 1 KA 1 kc [a4 0])(hNg:∀p,NA=some p→p.block≠g)(hKg:∀p,KA=some p→p.block≠g)(hs:∀x,x∈s→x<256)(hlen:bs.length+s.length+6≤1099511627776):aU aG 62 #[a1 g 0,.agg #[a4 12,.string (aB ([112,114,105,110,116])),a9 KA 1 kc]] w (fun e w'=>e= .returned (.tuple #[])∧Uq g b w w'∧WrB w' g b (a9 NA 2 nc) (bs++s)):=by
 refine bJ Tryz.func62 E (n:=22) E (bq E) (args:= [a1 g 0,.agg #[a4 12,.string (aB ([112,114,105,110,116])),a9 KA 1 kc]]) ?_
 have V:=hW.lt
 refine bH [(0,a1 g 0),(1,.agg #[a4 12,.string (aB ([112,114,105,110,116])),a9 KA 1 kc])] ⟨rfl,rfl,i3⟩ (sr (iE E E (vs:= [a4 12,.string (aB ([112,114,105,110,116])),a9 KA 1 kc]) E fun o W nb=>?_))
 have H:=nb.bk
 have Y:w.heap.size≤o:=by rw [←nb.at_];exact (Uq.refl g b w).size
 have D:∀p:a8,NA=some p→p.block<o:=fun p r=>by have:=((hN).block p r).2;have:=nb.at_;omega
 have Z:∀p:a8,NA=some p→p.block≠o:=fun p r=>Nat.ne_of_lt (D p r)
 have L:∀p:a8,KA=some p→p.block<o:=fun p r=>by have:=((hKo).block p r).2;have:=nb.at_;omega
 have aa:∀p:a8,KA=some p→p.block≠o:=fun p r=>Nat.ne_of_lt (L p r)
 have O:=nb.ext
 clear nb
 have j:Uq g b w W:=(Uq.refl g b w).trans (Uq.ofExt O)
 refine a7 (sr (pf o 2 E (aH E E (aS (fun _=>by kernel_rfl) H E) (pu (v:= a4 1) E (mv 1 E (a7 (bI ?_)))))))
 refine dJ (T:=a6×Nat) (fun⟨wr,i⟩=> [(0,a1 g 0),(3,a1 o 0),(7,a4 1),(8,a4 i)]) (fun⟨wr,i⟩=>wr) (fun⟨wr,i⟩=>(i≤1)∧(Uq g b w wr)∧(WrB wr g b (a9 NA 2 nc) (if i=0 then bs else bs++s))∧(Bk wr o 40 [a4 12,.string (aB ([112,114,105,110,116])),a9 KA 1 kc])∧(Own wr bN 40 3 NA 2 nc (gF s KA kc))∧(Own wr bN 3 1 KA 1 kc [I0])) (fun⟨wr,i⟩=>1-i)
  (⟨W,0⟩:a6×Nat) ⟨cE 1,j,(by rw [if_pos rfl];exact (hW.ext O)),H,(hN.ext O),(hKo.ext O)⟩ E ⟨rfl,rfl,rfl,rfl,i3⟩ ?_
 rintro⟨wr,i⟩ ⟨hi,j,q,F,f,h⟩
 rcases (show i=0∨i=1 by omega) with rfl | rfl
 ·rw [if_pos rfl] at q
  refine d9 [(0,a1 g 0),(3,a1 o 0),(7,a4 1),(8,a4 0)] wr E ⟨rfl,rfl,rfl,rfl,i3⟩ (sr (aA E E E true (by decide) (a7 (aD (b8 E (aY (aJ (aD (bI (sr (mv 2 E (a7 (aD ?_)))))))))))))
  refine sr (mv 1 E (aA E E E false (by decide) (a7 (aI E (aY (aJ (aE (mv 1 E (lo iN F [a4 12,.string (aB ([112,114,105,110,116])),a9 KA 1 kc] E E E (mv 1 E (bC E E (vs:= [a1 g 0,.agg #[a4 12,.string (aB ([112,114,105,110,116])),a9 KA 1 kc],I0]) (by kernel_rfl) (by decide) (KQ q (aN hbw j.size) (f) (h) hNg hKg hs (by first | omega | (simp only [cK,cS,List.length_nil];omega))) ?_)))))))))))
  rintro _ X ⟨rfl,M,I⟩
  refine bB ?_
  have U:Uq g b w X:=j.trans M
  refine bA (bU (aJ (aE (bF E E E 1 (show dD .add .i64 0 1=some 1 by decide) (mv 1 E (bA (cW (⟨X,1⟩:a6×Nat) ⟨aZ 1,U,(by rw [if_neg (by decide)];exact I),(M.bk F (by omega) (by decide)),(f.uq M hNg (by decide)),(h.uq M hKg (by decide))⟩ (by show 1-1<1-0;decide) E ⟨rfl,rfl,rfl,rfl,i3⟩)))))))
 ·rw [if_neg (by decide)] at q
  refine d9 [(0,a1 g 0),(3,a1 o 0),(7,a4 1),(8,a4 1)] wr E ⟨rfl,rfl,rfl,rfl,i3⟩ (sr (aA E E E false (by decide) (a7 (aD (aI E (dA (d7 (dG (d8 (jN [] E i3 ?_))))))))))
  exact⟨rfl,j,q⟩
theorem LJ (hW:WrB w g b (a9 NA 2 nc) bs)(hbw:b≤w.heap.size)(hN:Own w bN 40 3 NA 2 nc (gF s KA kc))(hKo:Own w bN 3 1 KA 1 kc [a4 0])(hNg:∀p,NA=some p→p.block≠g)(hKg:∀p,KA=some p→p.block≠g)(hs:∀x,x∈s→x<256)(hlen:bs.length+s.length+12≤1099511627776):aU aG 29 #[a1 g 0,a4 1] w (fun e w'=>e= .returned (.tuple #[])∧Uq g b w w'∧WrB w' g b (a9 NA 2 nc) (((bs++ [112,114,105,110,116])++ [32])++s)):=by
 refine bJ Tryz.func29 E (n:=125) E (bq E) (args:= [a1 g 0,a4 1]) ?_
 have bj:=hW.lt
 refine bH [(0,a1 g 0),(1,a4 1)] ⟨rfl,rfl,i3⟩ (sr (iE E E (vs:= [a1 g 0]) E fun W v2 nb=>?_))
 have I:=nb.bk
 have bz:w.heap.size≤W:=by rw [←nb.at_];exact (Uq.refl g b w).size
 have aa:∀p:a8,NA=some p→p.block<W:=fun p r=>by have:=((hN).block p r).2;have:=nb.at_;omega
 have cd:∀p:a8,NA=some p→p.block≠W:=fun p r=>Nat.ne_of_lt (aa p r)
 have am:∀p:a8,KA=some p→p.block<W:=fun p r=>by have:=((hKo).block p r).2;have:=nb.at_;omega
 have cg:∀p:a8,KA=some p→p.block≠W:=fun p r=>Nat.ne_of_lt (am p r)
 have O:=nb.ext
 clear nb
 have ai:Uq g b w v2:=(Uq.refl g b w).trans (Uq.ofExt O)
 refine a7 (sr (aH E E (aS (fun _=>by kernel_rfl) I E) (pf g 0 E (pf g 0 E (aH E E (cO (fun _=>by kernel_rfl) (hW.ext O).tree) (mv 1 E ?_))))))
 obtain⟨p8,ap,ba,bv,bf⟩:=uI (((hN.ext O)).rv)
 refine cG E E E Tryz.underlying35 iG 1 E p8 ap (aH E E (j1 iN ba bv bf) (eK E (z:= .agg #[I0,.string (aB ([])),S0]) (vs:= [I0,.string (aB ([])),S0]) (fun _=>by kernel_rfl) E fun L aq nb=>?_))
 have M:=nb.bk
 have ab:w.heap.size≤L:=by rw [←nb.at_];exact ai.size
 have cb:W<L:=by rw [←nb.at_];exact I.lt
 have U:∀p:a8,NA=some p→p.block<L:=fun p r=>by have:=(((hN.ext O)).block p r).2;have:=nb.at_;omega
 have ae:∀p:a8,NA=some p→p.block≠L:=fun p r=>Nat.ne_of_lt (U p r)
 have V:∀p:a8,KA=some p→p.block<L:=fun p r=>by have:=(((hKo.ext O)).block p r).2;have:=nb.at_;omega
 have ao:∀p:a8,KA=some p→p.block≠L:=fun p r=>Nat.ne_of_lt (V p r)
 have h:=nb.ext
 clear nb
 have ax:Uq g b w aq:=ai.trans (Uq.ofExt h)
 refine kX E E E iN E M (bq E) E [a4 12,.string (aB ([112,114,105,110,116])),a9 KA 1 kc] E fun bm D j _=>?_
 have F:Uq g b w bm:=Uq.then_upd ax j ab
 refine a7 (sr (pf L 0 E (aH E E (aS bL D E) (a7 (bI (aD (sr (aA E E E false (by decide) (mv 1 E (a7 (aI E (sr (aA E E E false (by decide) ?_)))))))))))))
 refine mv 1 E (a7 (aI E (aE (aA E E E false (by decide) (mv 1 E (a7 (aI E (sr (aA E E E false (by decide) (mv 1 E (a7 (aI E (aD ?_)))))))))))))
 refine aE (aA E E E false (by decide) (mv 1 E (a7 (aI E (sr (aA E E E false (by decide) (mv 1 E (a7 (aI E (sr (aA E E E false (by decide) (mv 1 E (bA ?_)))))))))))))
 refine aJ (aI E (sr (aA E E E false (by decide) (mv 1 E (a7 (aI E (sr (aA E E E true (by decide) (mv 1 E (a7 (b8 E (aD ?_))))))))))))
 refine fG eR 5 [] [Is (a1 g 0),Is (a1 g 0),Is (a1 g 1),Is (a1 L 1),Is (.string (aB ([112,114,105,110,116])))] [[],[0],[1],[],[3]] [[],[0],[0,1],[],[3],[0,1,2,3,4]] rfl
  (aP E E (aK E E ?_) (aP E E (aK E E ?_) (aP E E (aK E E ?_) (aP E E (aK E E ?_) (aP E E (aK E E ?_) fE))))) ?_
 ·intro bg aj
  have o:Uq g b w bg:=F.trans (Uq.ofExt aj)
  refine aL (aH E E (aS (fun _=>by kernel_rfl) (((I.ext h).vN j).ext aj) E) ?_)
  exact aO E aF rfl
 ·intro bd bu
  have o:Uq g b w bd:=F.trans (Uq.ofExt bu)
  refine dk E E (aL (pf g 0 E ?_))
  exact aO E aF rfl
 ·intro au bi
  have o:Uq g b w au:=F.trans (Uq.ofExt bi)
  refine dk E E (aL (pf g 1 E ?_))
  exact aO E aF rfl
 ·intro br aw
  have o:Uq g b w br:=F.trans (Uq.ofExt aw)
  refine aL (pf L 1 E ?_)
  exact aO E aF rfl
 ·intro bw ah
  have o:Uq g b w bw:=F.trans (Uq.ofExt ah)
  refine dk E E (aL (aH E E (aS (fun _=>by kernel_rfl) (D.ext ah) E) ?_))
  exact aO E aF rfl
 ·intro av f
  have o:Uq g b w av:=F.trans (Uq.ofExt f)
  refine dk E E (dk E E (dk E E (dk E E (dk E E (aL (bC E E (vs:= [a1 g 1,.string (aB ([112,114,105,110,116]))]) (by kernel_rfl) (by decide) (C1 (s:= [112,114,105,110,116]) (((hW.ext (O.t h)).upd1 M (by decide) j (by omega)).ext f) (aN hbw o.size) (by decide) (by first | omega | (simp only [cS,List.length_nil];omega))) ?_))))))
  rintro _ ay ⟨rfl,q,Y⟩
  refine bB ?_
  have ak:Uq g b w ay:=o.trans q
  refine bA (fF (aJ (aD (sr (pf L 2 E (aH E E (aS (fun _=>by kernel_rfl) (q.bk (D.ext f) (by omega) (by decide)) E) (pu (v:= a4 1) E (aA E E E true (by decide) (a7 (b8 E (aE (aH E E (aS (fun _=>by kernel_rfl) (q.bk (((I.ext h).vN j).ext f) (by omega) (by decide)) E) (pf g 0 E ?_)))))))))))))
  refine pf g 1 E (bC E E (vs:= [a1 g 1,.int .u8 32]) (by kernel_rfl) (by decide) (MB (x:=32) Y (aN hbw ak.size) (by first | omega | (simp only [cK,cS,List.length_nil];omega))) ?_)
  rintro _ bh ⟨rfl,H,Z⟩
  refine bB ?_
  have X:Uq g b w bh:=ak.trans H
  refine a7 (aE (aH E E (aS (fun _=>by kernel_rfl) (H.bk (q.bk (((I.ext h).vN j).ext f) (by omega) (by decide)) (by omega) (by decide)) E) (lo iN (H.bk (q.bk (D.ext f) (by omega) (by decide)) (by omega) (by decide)) [a4 12,.string (aB ([112,114,105,110,116])),a9 KA 1 kc] E E E (bC E E (vs:= [a1 g 0,.agg #[a4 12,.string (aB ([112,114,105,110,116])),a9 KA 1 kc]]) (by kernel_rfl) (by decide) (KT Z (aN hbw X.size) ((((((hN.ext (O.t h)).upd j ae).ext f).uq q hNg (by decide)).uq H hNg (by decide))) ((((((hKo.ext (O.t h)).upd j ao).ext f).uq q hKg (by decide)).uq H hKg (by decide))) hNg hKg hs (by first | omega | (simp only [cK,cS,List.length_nil];omega))) ?_))))
  rintro _ ar ⟨rfl,bo,ag⟩
  refine bB ?_
  have az:Uq g b w ar:=X.trans bo
  refine bA (bU (jN [] E i3 ?_))
  exact⟨rfl,az,ag⟩
end
end Go.Proofs.YtnpbbknemflpnaaGreatDoor
