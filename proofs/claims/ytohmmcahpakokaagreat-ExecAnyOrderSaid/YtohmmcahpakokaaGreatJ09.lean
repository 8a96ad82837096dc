/- The hash tree in plain Lean: roots, paths, the root that follows from a leaf and its path. -/
import Derived.Test.YtohmmcahpakokaaGreatJ07
set_option maxRecDepth 100000
set_option maxHeartbeats 8000000
set_option linter.unusedVariables false
set_option linter.unusedSimpArgs false
namespace Go.Proofs.YtohmmcahpakokaaGreat
section
open Go.RowKit
def lT:Nat→Nat→Nat→Nat
 | 0,_,k=>k
 | f+1,n,k=>if k < n - k then lT f n (2 * k) else k
def spl (n:Nat):Nat:=lT n n 1
theorem aGt (f n k:Nat) (h1:1≤k) (h2:k < n):1≤lT f n k∧lT f n k < n:=by
 induction f generalizing k with
 | zero=>exact ⟨h1,h2⟩
 | succ f ih =>
  unfold lT
  split
  ·exact ih (2 * k) (by omega) (by omega)
  exact ⟨h1,h2⟩
theorem fS (n:Nat) (h:2≤n):1≤spl n∧spl n < n:=aGt n n 1 (by omega) (by omega)
theorem tK (f n k:Nat) (h:¬ k < n - k):lT f n k=k:=by
 cases f with
 | zero=>rfl
 | succ f=>unfold lT;rw [if_neg h]
theorem aBi (f n k:Nat) (hk:1≤k) (hf:n - k≤f) (h:k < n - k):lT f n k=lT (f - 1) n (2 * k):=by
 cases f with
 | zero=>omega
 | succ f=>rw [lT,if_pos h];rfl
def rY (x:UInt64):UInt64:=dM 17 (nmb x)
def dE (l:List UInt64):UInt64 :=
 if h:2≤l.length then kD 18 (dE (l.take (spl l.length))) (dE (l.drop (spl l.length)))
 else match l with
  | []=>dM 16 []
  | x :: _=>rY x
termination_by l.length
decreasing_by
 ·have:=fS _ h;simp;omega
 have:=fS _ h;simp;omega
theorem aEZ:dE []=dM 16 []:=by rw [dE];simp
theorem xR (x:UInt64):dE [x]=rY x:=by rw [dE];simp
theorem oG (l:List UInt64) (h:2≤l.length):dE l=kD 18 (dE (l.take (spl l.length))) (dE (l.drop (spl l.length))):=by rw [dE,dif_pos h]
def fG (l:List UInt64) (i:Nat):List UInt64 :=
 if h:2≤l.length then
  if i < spl l.length then fG (l.take (spl l.length)) i ++ [dE (l.drop (spl l.length))]
  else fG (l.drop (spl l.length)) (i - spl l.length) ++ [dE (l.take (spl l.length))]
 else []
termination_by l.length
decreasing_by
 ·have:=fS _ h;simp;omega
 have:=fS _ h;simp;omega
theorem rV (l:List UInt64) (i:Nat) (h:¬ 2≤l.length):fG l i=[]:=by rw [fG,dif_neg h]
theorem qY (l:List UInt64) (i:Nat) (h:2≤l.length) (hi:i < spl l.length):fG l i=fG (l.take (spl l.length)) i ++ [dE (l.drop (spl l.length))]:=by rw [fG,dif_pos h,if_pos hi]
theorem oK (l:List UInt64) (i:Nat) (h:2≤l.length) (hi:¬ i < spl l.length):fG l i=fG (l.drop (spl l.length)) (i - spl l.length) ++ [dE (l.take (spl l.length))]:=by rw [fG,dif_pos h,if_neg hi]
def fJ (i n:Nat):Nat :=
 if h:2≤n then (if i < spl n then fJ i (spl n) else fJ (i - spl n) (n - spl n))+1 else 0
termination_by n
decreasing_by
 ·have:=fS _ h;omega
 have:=fS _ h;omega
theorem jP (i n:Nat) (h:¬ 2≤n):fJ i n=0:=by rw [fJ,dif_neg h]
theorem jQ (i n:Nat) (h:2≤n) (hi:i < spl n):fJ i n=fJ i (spl n)+1:=by rw [fJ,dif_pos h,if_pos hi]
theorem iE (i n:Nat) (h:2≤n) (hi:¬ i < spl n):fJ i n=fJ (i - spl n) (n - spl n)+1:=by rw [fJ,dif_pos h,if_neg hi]
theorem pP (l:List UInt64) (i:Nat):(fG l i).length=fJ i l.length:=by
 generalize hn:l.length=n
 induction n using Nat.strongRecOn generalizing l i with
 | _ n ih =>
  subst hn
  by_cases h:2≤l.length
  ·have hb := fS _ h
   by_cases hi:i < spl l.length
   ·rw [qY l i h hi,jQ _ _ h hi,List.length_append,ih (spl l.length) hb.2 (l.take (spl l.length)) i (by simp;omega)];rfl
   rw [oK l i h hi,iE _ _ h hi,List.length_append,ih (l.length - spl l.length) (by omega) (l.drop (spl l.length)) _ (by simp)];rfl
  rw [rV l i h,jP _ _ h];rfl
def dJ (leaf:UInt64) (i n:Nat) (path:List UInt64):UInt64 :=
 if h:2≤n then
  if i < spl n then kD 18 (dJ leaf i (spl n) path.dropLast) (path.getLastD 0)
  else kD 18 (path.getLastD 0) (dJ leaf (i - spl n) (n - spl n) path.dropLast)
 else rY leaf
termination_by n
decreasing_by
 ·have:=fS _ h;omega
 have:=fS _ h;omega
theorem sF (leaf:UInt64) (i n:Nat) (path:List UInt64) (h:¬ 2≤n):dJ leaf i n path=rY leaf:=by rw [dJ,dif_neg h]
theorem yL (leaf:UInt64) (i n:Nat) (path:List UInt64) (h:2≤n) (hi:i < spl n):dJ leaf i n path=kD 18 (dJ leaf i (spl n) path.dropLast) (path.getLastD 0):=by rw [dJ,dif_pos h,if_pos hi]
theorem vN (leaf:UInt64) (i n:Nat) (path:List UInt64) (h:2≤n) (hi:¬ i < spl n):dJ leaf i n path=kD 18 (path.getLastD 0) (dJ leaf (i - spl n) (n - spl n) path.dropLast):=by rw [dJ,dif_pos h,if_neg hi]
theorem aCi (l:List UInt64) (i:Nat) (hi:i < l.length):dJ (l.getD i 0) i l.length (fG l i)=dE l:=by
 generalize hn:l.length=n
 induction n using Nat.strongRecOn generalizing l i with
 | _ n ih =>
  subst hn
  by_cases h:2≤l.length
  ·have hb := fS _ h
   by_cases hk:i < spl l.length
   ·rw [yL _ _ _ _ h hk, oG l h, qY l i h hk]
    have e:=ih (spl l.length) hb.2 (l.take (spl l.length)) i (by simp;omega) (by simp;omega)
    have e2:(l.take (spl l.length)).getD i 0=l.getD i 0:=by simp [List.getElem?_take,hk]
    rw [e2] at e
    rw [List.dropLast_concat,List.getLastD_concat,e]
   rw [vN _ _ _ _ h hk,oG l h,oK l i h hk]
   have e:=ih (l.length - spl l.length) (by omega) (l.drop (spl l.length)) (i - spl l.length) (by simp;omega) (by simp)
   have e2:(l.drop (spl l.length)).getD (i - spl l.length) 0=l.getD i 0:=by
    simp [List.getElem?_drop,show spl l.length+(i - spl l.length)=i from by omega]
   rw [e2] at e
   rw [List.dropLast_concat,List.getLastD_concat,e]
  have h1:l.length=1:=by omega
  obtain ⟨x,rfl⟩:=List.length_eq_one_iff.1 h1
  obtain rfl:i=0:=by simp at hi;omega
  rw [sF _ _ _ _ (by simp),xR];rfl
end
section
open Go.RowKit
attribute [local go_sem ↓] Go.wp_at_zero Go.wp_at_succ
theorem nA (n:Nat) (w:World) (h2:2≤n) (hm:n≤1000000) :
  Calls Tryz.prog 263 #[.int .i64 (n:Int)] w fun e w'=>e=.returned (.int .i64 (spl n:Int))∧w=w':=by
 go_enter Tryz.func263,Tryz.ntmps263
 go_wp2_with fail
 go_loop [3] (fun v=>∃ (f k:Nat),v=.int .i64 (k:Int)∧1≤k∧k < n∧n - k≤f∧Hid (lT f n k=spl n)) (fun v=>n - (intOf v).toNat)
 case atStart=>exact ⟨n,1,rfl,by omega,by omega,by omega,rfl⟩
 case round =>
  obtain ⟨f,k,rfl,hk1,hk2,hf,hs⟩:=hrel
  by_cases hlt:k < n - k
  ·have hs2 := zh ((aBi f n k hk1 hf hlt).symm.trans hs.out)
   have hlt':(k:Int) < (n:Int) - (k:Int):=by omega
   go_wp2_with fail
   go_round
   case rel=>exact ⟨f - 1,2 * k,by go_num,by omega,by omega,by omega,hs2⟩
   case measure=>simp [intOf];omega
  have hs2:=zh ((tK f n k hlt).symm.trans hs.out)
  have hlt':¬ (k:Int) < (n:Int) - (k:Int):=by omega
  go_wp2_with fail
  go_ret
  exact ⟨by rw [← hs2.out];rfl,rfl⟩
theorem lI (n:Nat) (w:World) (h2:2≤n) (hm:n≤1000000) :
  Calls Tryz.prog 194 #[.int .i64 (n:Int)] w fun e w'=>e=.returned (.int .i64 (spl n:Int))∧w=w':=by
 go_enter Tryz.func194,Tryz.ntmps194
 go_wp2_with fail
 go_loop [3] (fun v=>∃ (f k:Nat),v=.int .i64 (k:Int)∧1≤k∧k < n∧n - k≤f∧Hid (lT f n k=spl n)) (fun v=>n - (intOf v).toNat)
 case atStart=>exact ⟨n,1,rfl,by omega,by omega,by omega,rfl⟩
 case round =>
  obtain ⟨f,k,rfl,hk1,hk2,hf,hs⟩:=hrel
  by_cases hlt:k < n - k
  ·have hs2 := zh ((aBi f n k hk1 hf hlt).symm.trans hs.out)
   have hlt':(k:Int) < (n:Int) - (k:Int):=by omega
   go_wp2_with fail
   go_round
   case rel=>exact ⟨f - 1,2 * k,by go_num,by omega,by omega,by omega,hs2⟩
   case measure=>simp [intOf];omega
  have hs2:=zh ((tK f n k hlt).symm.trans hs.out)
  have hlt':¬ (k:Int) < (n:Int) - (k:Int):=by omega
  go_wp2_with fail
  go_ret
  exact ⟨by rw [← hs2.out];rfl,rfl⟩
theorem aCV (x:UInt64) (w:World) :
  Calls Tryz.prog 264 #[.agg (nmc x)] w fun e w'=>e=.returned (.agg (nmc (rY x)))∧Ext w w':=by
 go_enter Tryz.func264,Tryz.ntmps264
 go_wp2_with fail
 refine (gX 17 _ _ _ (nmb x) _ ?h1 (by omega)).mono ?_
 case h1=>exact SlB.blkN ((Blk.new w _ (nmc x)).alloc _)
 rintro e w3 ⟨rfl,he3⟩
 have hb0:Blk w3 (w.heap.size+1) 30 zcs.toArray:=(Blk.newAt _ _ _ _ (by simp)).ext he3
 go_wp2_with (with_reducible refine aW rfl _ _ rfl (w.heap.size+1) 0 _ rfl rfl (dZ hb0) ?_)
 refine bodyPost_ret (v:=.agg (nmc (rY x))) (eL rfl _ _ (w.heap.size+1) _ rfl (blkN hb0 _)) rfl ⟨rfl,Below.setCells' ((((Ext.refl w).alloc' _).alloc' _).trans he3) (by omega) _ _⟩
theorem jZ (N:Nat):∀ (n:Nat) (A:Option Addr) (c:Nat) (ns:List UInt64) (w:World),n≤N→n≤1000000→SlN w A n c ns →
  Calls Tryz.prog 133 #[.slice A n c] w fun e w'=>e=.returned (.agg (nmc (dE ns)))∧Ext w w':=by
 induction N with
 | zero =>
  intro n A c ns w hn _ h
  obtain rfl:n=0:=by omega
  obtain rfl:ns=[]:=List.eq_nil_of_length_eq_zero h.len
  have HR:=zh aEZ
  go_enter Tryz.func133,Tryz.ntmps133
  go_wp2_with fail
  refine (dH 16 none 0 0 [] _ (SlB.nil _) (by omega)).mono ?_
  rintro e w3 ⟨rfl,he3⟩
  have hb0:Blk w3 w.heap.size 30 zcs.toArray:=(Blk.new w _ _).ext he3
  go_wp2_with (with_reducible refine aW rfl _ _ rfl w.heap.size 0 _ rfl rfl (dZ hb0) ?_)
  refine bodyPost_ret (v:=.agg (nmc (dM 16 []))) (eL rfl _ _ w.heap.size _ rfl (blkN hb0 _)) rfl ⟨by rw [HR.out],Below.setCells' (((Ext.refl w).alloc' _).trans he3) (by omega) _ _⟩
 | succ N ih =>
  intro n A c ns w hn hmx h
  by_cases h0:n≤N
  ·exact ih n A c ns w h0 hmx h
  by_cases h1:n=1
  ·subst h1
   obtain ⟨x,rfl⟩:=List.length_eq_one_iff.1 h.len
   obtain ⟨b,o,rfl,hra,hbl⟩:=h.at (by omega)
   have hnm:=(pV hra (k:=0) (by simp))
   rw [Nat.zero_mul,Nat.add_zero] at hnm
   have HR:=zh (xR x)
   have hnm2:(w.alloc (.cells zcs.toArray 30)).rangeAt b o (bcs (nmb x)):=World.rangeAt_alloc hnm _
   go_enter Tryz.func133,Tryz.ntmps133
   go_wp2_with fail
   refine (dH 17 _ _ _ (nmb x) _ ⟨aG x,Nat.le_refl _,by omega,.inr ⟨b,o,rfl,hnm2⟩⟩ (by omega)).mono ?_
   rintro e w3 ⟨rfl,he3⟩
   have hb0:Blk w3 w.heap.size 30 zcs.toArray:=(Blk.new w _ _).ext he3
   go_wp2_with (with_reducible refine aW rfl _ _ rfl w.heap.size 0 _ rfl rfl (dZ hb0) ?_)
   refine bodyPost_ret (v:=.agg (nmc (rY x))) (eL rfl _ _ w.heap.size _ rfl (blkN hb0 _)) rfl ⟨by rw [HR.out],Below.setCells' (((Ext.refl w).alloc' _).trans he3) (by omega) _ _⟩
  by_cases h00:n=0
  ·exact ih n A c ns w (by omega) hmx h
  have hn2:2≤n:=by omega
  have hlen:=h.len
  have hle:=h.le
  have hcap:=h.cap
  have hsb:=fS n hn2
  have HR:=zh (oG ns (by omega))
  rw [hlen] at HR
  have e0:((n:Int) == 0)=false:=by simp;omega
  have e1:((n:Int) == 1)=false:=by simp;omega
  obtain ⟨k,hk⟩:∃ k,k=spl n:=⟨_,rfl⟩
  have Hk:=zh hk
  rw [← hk] at hsb HR
  clear hk
  have IH:=zh ih
  clear ih
  have hE1:Ext w (w.alloc (.cells zcs.toArray 30)).drew:=((Ext.refl w).alloc' _).drew'
  have hX:Ext (w.alloc (.cells zcs.toArray 30)).drew (w.alloc (.cells zcs.toArray 30)).drew:=Ext.refl _
  have hz:Blk (w.alloc (.cells zcs.toArray 30)).drew w.heap.size 30 zcs.toArray:=(Blk.new w _ _).drew
  have hs1:=(h.upto (k:=k) (by omega)).ext hE1
  have hs2:=(h.cut (k:=k) (by omega) (by omega)).ext hE1
  have b1:k≤n:=by omega
  have b2:k≤c:=by omega
  have b3:¬ c=k:=by omega
  go_enter Tryz.func133,Tryz.ntmps133
  go_wp2_with (go_at_call 194;refine (lI n _ hn2 (by omega)).mono ?_;rintro e w1 ⟨rfl,rfl⟩;rw [← Hk.out])
  go_region_held3 (fun _=>True) (trivial) (first | (go_at_call 133;refine (IH.out _ _ _ _ _ (by omega) (by omega) (by first | exact hs1.ext hX | exact hs2.ext hX)).mono ?_;rintro e w1 ⟨rfl,he1⟩;have hX:=Ext.trans hX he1) | (go_at_call 195;refine (aBr 18 _ _ _).mono ?_;rintro e w1 ⟨rfl,he1⟩;have hX:=Ext.trans hX he1;have hst:=cA (hz.ext hX) (kD 18 (dE (ns.take k)) (dE (ns.drop k)))))
  go_wp2_with fail
  refine bodyPost_ret (v:=.agg (nmc (kD 18 (dE (ns.take k)) (dE (ns.drop k))))) (eL rfl _ _ w.heap.size _ rfl (blkN (hz.ext hX) _)) rfl ⟨by rw [HR.out],Below.setCells' (hE1.trans hX) (Nat.le_refl _) _ _⟩
theorem aHv (i n:Nat) (w:World) (hi:i < n) (hm:n≤1000000) :
  Calls Tryz.prog 257 #[.int .i64 (i:Int),.int .i64 (n:Int)] w fun e w'=>e=.returned (.int .i64 (fJ i n:Int))∧w=w':=by
 have e1:decide (n≤i)=false:=decide_eq_false (by omega)
 have e0:decide ((i:Int) < 0)=false:=decide_eq_false (by omega)
 go_enter Tryz.func257,Tryz.ntmps257
 go_wp2_with fail
 go_loop [0,1,5] (fun vi vn vd=>∃ (i' n' d:Nat),vi=.int .i64 (i':Int)∧vn=.int .i64 (n':Int)∧vd=.int .i64 (d:Int)∧i' < n'∧d+n'≤n∧Hid (d+fJ i' n'=fJ i n)) (fun _ vn _=>(intOf vn).toNat)
 case atStart=>exact ⟨i,n,0,rfl,rfl,rfl,hi,by omega,Nat.zero_add _⟩
 case round =>
  obtain ⟨i',n',d,rfl,rfl,rfl,hi',hd,hs⟩:=hrel
  by_cases h2:2≤n'
  ·have hsb := fS n' h2
   have h2':(1:Int) < (n':Int):=by omega
   obtain ⟨k,hk⟩:∃ k,k=spl n':=⟨_,rfl⟩
   have Hk:=zh hk
   rw [← hk] at hsb
   clear hk
   by_cases hlt:i' < k
   ·have hs2 : Hid (d + 1 + fJ i' k = fJ i n) := zh (by have := hs.out; rw [jQ i' n' h2 (by rw [← Hk.out]; exact hlt), ← Hk.out] at this; omega)
    have hk':(i':Int) < (k:Int):=by omega
    go_wp2_with (go_at_call 263;refine (nA n' _ h2 (by omega)).mono ?_;rintro e w1 ⟨rfl,rfl⟩;rw [← Hk.out])
    go_round
    case rel=>first | exact ⟨i',k,d+1,rfl,rfl,by go_num,hlt,by omega,hs2⟩ | (refine ⟨trivial,?_⟩;(repeat apply Exists.intro);exact ⟨⟨i',k,d+1,rfl,rfl,by go_num,hlt,by omega,hs2⟩,rfl⟩)
    case measure=>simp [intOf];omega
   have hs2:Hid (d+1+fJ (i' - k) (n' - k)=fJ i n):=zh (by have:=hs.out;rw [iE i' n' h2 (by rw [← Hk.out];exact hlt),← Hk.out] at this;omega)
   have hk':¬ (i':Int) < (k:Int):=by omega
   go_wp2_with (go_at_call 263;refine (nA n' _ h2 (by omega)).mono ?_;rintro e w1 ⟨rfl,rfl⟩;rw [← Hk.out])
   go_round
   case rel=>first | exact ⟨i' - k,n' - k,d+1,by go_num,by go_num,by go_num,by omega,by omega,hs2⟩ | (refine ⟨trivial,?_⟩;(repeat apply Exists.intro);exact ⟨⟨i' - k,n' - k,d+1,by go_num,by go_num,by go_num,by omega,by omega,hs2⟩,rfl⟩)
   case measure=>simp [intOf];omega
  have hs2:Hid (d=fJ i n):=zh (by have:=hs.out;rw [jP i' n' h2] at this;omega)
  have h2':¬ (1:Int) < (n':Int):=by omega
  go_wp2_with fail
  go_ret
  exact ⟨by rw [← hs2.out];rfl,rfl⟩
section
variable {P:Program} {t e:TypeId} {z:Value} {size bytes:Nat}
theorem aBo (E:Elem P t e z size bytes) (ty:TypeId) (w:World) (A:Option Addr) (n:Nat) (xs:List Value) (hra:Rd w A xs) (hla:xs.length=n * size)
  (A2:Option Addr) (m c2:Nat) (ys:List Value) (hr:Rd w A2 ys) (hl:ys.length=m * size) (hm:0 < m)
  (hb:(n+m) * bytes≤140737488355328) (h63:n+m≤4611686018427387904) :
  ∃ A' c' w',(Builtin.append_ #[t,t] ty #[.slice A n n,.slice A2 m c2]).run P w=.ok (.slice A' (n+m) c') w'∧w'.ownsRow w.heap.size e size (.slice A' (n+m) c') (n+m) (xs ++ ys)∧Ext w w':=by
 obtain ⟨i,hi,hz,hs,hby⟩:=E.get
 subst hs;subst hby
 have hp:=E.pos
 obtain ⟨ad2,rfl,hcb⟩:=hr.src (by rw [hl];exact Nat.mul_pos hm hp)
 rcases A with _ | ad
 ·have hx:xs=[]:=by
   rcases hra with h | ⟨b,o,h,_⟩
   ·exact h
   cases h
  subst hx
  have hn:n=0:=by
   rcases Nat.eq_zero_or_pos n with h | h
   ·exact h
   have:=Nat.mul_pos h hp;simp at hla;omega
  subst hn
  have hrun:=run_append_nil (P:=P) w t ty e i z E.ut hi hz ad2 m c2 ys hl hcb hm (by omega) (by have hb:=hb;simp only [Nat.zero_add] at hb;omega)
  have hge:=grownCap_ge w m 0 e
  have hcm:grownCap w m 0 e≤maxLen:=grownCap_le_maxLen w m 0 e (by simp only [maxLen];omega)
  simp only [Nat.zero_add,List.nil_append]
  refine ⟨_,_,_,hrun,⟨hl,.inr ⟨w.heap.size,_,_,rfl,Nat.le_refl _,heap_alloc_new w.drew _,hge,hcm,?_,?_⟩⟩,(Ext.refl w).drew'.alloc' _⟩
  ·simp only [Array.size_append, List.size_toArray, size_zeroCells, E.zs, hl, ← Nat.add_mul]
   congr 1;omega
  simp only [Array.toList_append]
  rw [← hl]
  exact List.take_left
 have hca:∀ j v,xs[j]?=some v→w.cell? (ad.add j)=some v:=by
  intro j v hv
  obtain ⟨ad',h,hc⟩:=hra.src (by have:=(List.getElem?_eq_some_iff.1 hv).1;omega)
  injection h with h;subst h;exact hc j v hv
 have hg:n < n+m:=by omega
 have hrun:=run_append_grow (P:=P) w t ty e i z E.ut hi hz ad n n xs hla hca ad2 m c2 ys hl hcb hg (by omega) (growslice_fits hg hb)
 refine ⟨_,_,_,hrun,⟨by rw [List.length_append,hla,hl,Nat.add_mul],.inr ⟨w.heap.size,_,_,rfl,Nat.le_refl _,heap_alloc_new w.drew _,grownCap_ge w _ _ _,grownCap_le_maxLen w _ _ _ (by simp only [maxLen];omega),?_,?_⟩⟩,(Ext.refl w).drew'.alloc' _⟩
 ·simp only [Array.size_append, List.size_toArray, size_zeroCells, E.zs, hla, hl, ← Nat.add_mul]
  have:=grownCap_ge w (n+m) n e
  congr 1;omega
 simp only [Array.toList_append,List.append_assoc]
 rw [← List.append_assoc,show (n+m) * i.size=(xs ++ ys).length from by rw [List.length_append,hla,hl,Nat.add_mul]]
 exact List.take_left
end
theorem aAC (i n:Nat):fJ i n≤n:=by
 induction n using Nat.strongRecOn generalizing i with
 | _ n ih =>
  by_cases h:2≤n
  ·have hb := fS n h
   by_cases hi:i < spl n
   ·rw [jQ i n h hi];have:=ih (spl n) hb.2 i;omega
   rw [iE i n h hi];have:=ih (n - spl n) (by omega) (i - spl n);omega
  rw [jP i n h];omega
theorem mL (N:Nat):∀ (n i:Nat) (A:Option Addr) (c:Nat) (ns:List UInt64) (w:World),n≤N→n≤1000000→i < n→SlN w A n c ns →
  Calls Tryz.prog 137 #[.slice A n c,.int .i64 (i:Int)] w fun e w'=>∃ A' c',e=.returned (.tuple #[.slice A' (fJ i n) c',.bool true])∧w'.ownsRow w.heap.size 30 8 (.slice A' (fJ i n) c') (fJ i n) (ncs (fG ns i))∧Ext w w':=by
 induction N with
 | zero=>intro n i A c ns w hn _ hi h;omega
 | succ N ih =>
  intro n i A c ns w hn hmx hi h
  by_cases h0:n≤N
  ·exact ih n i A c ns w h0 hmx hi h
  have e0:decide ((i:Int) < 0)=false:=decide_eq_false (by omega)
  have e1:decide (n≤i)=false:=decide_eq_false (by omega)
  by_cases h1:n=1
  ·subst h1
   have HD:=zh (jP i 1 (by omega))
   have HP:=zh (rV ns i (by rw [h.len];omega))
   go_enter Tryz.func137,Tryz.ntmps137
   go_wp2_with fail
   go_ret2
   rw [HD.out,HP.out]
   exact ⟨none,0,rfl,World.ownsRow_nil _ _ _ _,Ext.refl w⟩
  have hn2:2≤n:=by omega
  have hlen:=h.len
  have hle:=h.le
  have hcap:=h.cap
  have hsb:=fS n hn2
  have n1:((n:Int) == 1)=false:=by simp;omega
  obtain ⟨k,hk⟩:∃ k,k=spl n:=⟨_,rfl⟩
  have Hk:=zh hk
  rw [← hk] at hsb
  have IH:=zh ih
  clear ih
  have hs1:=h.upto (k:=k) (by omega)
  have hs2:=h.cut (k:=k) (by omega) (by omega)
  have b1:k≤n:=by omega
  have b2:k≤c:=by omega
  have b3:¬ c=k:=by omega
  by_cases hlt:i < k
  ·have HD := zh (jQ i n hn2 (by rw [← hk]; exact hlt))
   have HP:=zh (qY ns i (by omega) (by rw [hlen,← hk];exact hlt))
   rw [← hk] at HD
   rw [hlen,← hk] at HP
   clear hk
   have hdl:=aAC i k
   have hlt':(i:Int) < (k:Int):=by omega
   go_enter Tryz.func137,Tryz.ntmps137
   go_wp2_with (go_at_call 194;refine (lI n _ hn2 (by omega)).mono ?_;rintro e w1 ⟨rfl,rfl⟩;rw [← Hk.out])
   refine (IH.out k i A c (ns.take k) _ (by omega) (by omega) hlt hs1).mono ?_
   rintro e w1 ⟨A1,c1,rfl,ho1,he1⟩
   go_wp2_with fail
   refine (jZ n (n - k) _ _ (ns.drop k) _ (by omega) (by omega) (hs2.ext he1)).mono ?_
   rintro e w2 ⟨rfl,he2⟩
   have ho2:=bA ho1 he2
   have hE2:=Ext.trans he1 he2
   have hsz:=hE2.size
   generalize fJ i k=d at *
   go_wp2_with (at_builtin;go_must (refine fR dC rfl (.tmp 36) (.tmp 41) rfl w.heap.size _ _ _ _ rfl (ho2.alloc _) _ _ _ (ncs [dE (ns.drop k)]) rfl (Rd.newN _ _ _ _ rfl) (by rw [cZ];rfl) (nF _) ?b1 ?c1 ?d1 w ?w1 ?_))
   case b1=>omega
   case c1=>omega
   case d1=>simp;omega
   case w1=>exact Below.alloc hE2 hsz _
   intro A3 c3 w3 ho3 hw3 hs3
   go_wp2_with fail
   go_ret2
   rw [HD.out,HP.out,eY]
   exact ⟨A3,c3,rfl,ho3,hw3⟩
  have HD:=zh (iE i n hn2 (by rw [← hk];exact hlt))
  have HP:=zh (oK ns i (by omega) (by rw [hlen,← hk];exact hlt))
  rw [← hk] at HD
  rw [hlen,← hk] at HP
  clear hk
  have hdl:=aAC (i - k) (n - k)
  have hlt':¬ (i:Int) < (k:Int):=by omega
  go_enter Tryz.func137,Tryz.ntmps137
  go_wp2_with (go_at_call 194;refine (lI n _ hn2 (by omega)).mono ?_;rintro e w1 ⟨rfl,rfl⟩;rw [← Hk.out])
  rw [show (i:Int) - (k:Int)=((i - k:Nat):Int) from by omega]
  refine (IH.out (n - k) (i - k) _ (c - k) (ns.drop k) _ (by omega) (by omega) (by omega) hs2).mono ?_
  rintro e w1 ⟨A1,c1,rfl,ho1,he1⟩
  go_wp2_with fail
  refine (jZ n k _ _ (ns.take k) _ (by omega) (by omega) (hs1.ext he1)).mono ?_
  rintro e w2 ⟨rfl,he2⟩
  have ho2:=bA ho1 he2
  have hE2:=Ext.trans he1 he2
  have hsz:=hE2.size
  generalize fJ (i - k) (n - k)=d at *
  go_wp2_with (at_builtin;go_must (refine fR dC rfl (.tmp 53) (.tmp 58) rfl w.heap.size _ _ _ _ rfl (ho2.alloc _) _ _ _ (ncs [dE (ns.take k)]) rfl (Rd.newN _ _ _ _ rfl) (by rw [cZ];rfl) (nF _) ?b1 ?c1 ?d1 w ?w1 ?_))
  case b1=>omega
  case c1=>omega
  case d1=>simp;omega
  case w1=>exact Below.alloc hE2 hsz _
  intro A3 c3 w3 ho3 hw3 hs3
  go_wp2_with fail
  go_ret2
  rw [HD.out,HP.out,eY]
  exact ⟨A3,c3,rfl,ho3,hw3⟩
theorem aFx (ns:List UInt64) (d:Nat) (h:ns.length=d+1):ns.dropLast=ns.take d∧ns.getLastD 0=gC ns d:=by
 constructor
 ·rw [List.dropLast_eq_take,h];rfl
 unfold gC
 rcases List.eq_nil_or_concat ns with rfl | ⟨l,x,rfl⟩
 ·simp at h
 simp only [List.concat_eq_append,List.length_append,List.length_cons,List.length_nil,Nat.zero_add,Nat.add_right_cancel_iff] at h
 subst h
 rw [List.concat_eq_append,List.getLastD_concat];simp
theorem aAD (N:Nat):∀ (leaf:UInt64) (n i m:Nat) (A:Option Addr) (c:Nat) (ns:List UInt64) (w:World),n≤N→n≤1000000→i < n→m=fJ i n→SlN w A m c ns →
  Calls Tryz.prog 258 #[.agg (nmc leaf),.int .i64 (i:Int),.int .i64 (n:Int),.slice A m c] w fun e w'=>e=.returned (.agg (nmc (dJ leaf i n ns)))∧Ext w w':=by
 induction N with
 | zero=>intro leaf n i m A c ns w hn _ hi;omega
 | succ N ih =>
  intro leaf n i m A c ns w hn hmx hi hm h
  by_cases h0:n≤N
  ·exact ih leaf n i m A c ns w h0 hmx hi hm h
  have HM:=zh hm
  clear hm
  by_cases h1:n=1
  ·subst h1
   have HC:=zh (sF leaf i 1 ns (by omega))
   have hrl:=dP ((Blk.new w 30 (nmc leaf)).alloc (.cells zcs.toArray 30))
   go_enter Tryz.func258,Tryz.ntmps258
   go_wp2_with (refine bE rfl (.tmp 4) rfl w.heap.size 0 rfl leaf hrl ?_)
   refine (aCV _ _).mono ?_
   rintro e w3 ⟨rfl,he3⟩
   have hb0:Blk w3 (w.heap.size+1) 30 zcs.toArray:=(Blk.newAt _ _ _ _ (by simp)).ext he3
   go_wp2_with (with_reducible refine aW rfl _ _ rfl (w.heap.size+1) 0 _ rfl rfl (dZ hb0) ?_)
   refine bodyPost_ret (v:=.agg (nmc (rY leaf))) (eL rfl _ _ (w.heap.size+1) _ rfl (blkN hb0 _)) rfl ⟨by rw [HC.out],Below.setCells' ((((Ext.refl w).alloc' _).alloc' _).trans he3) (by omega) _ _⟩
  have hn2:2≤n:=by omega
  have hsb:=fS n hn2
  have n1:((n:Int) == 1)=false:=by simp;omega
  obtain ⟨k,hk⟩:∃ k,k=spl n:=⟨_,rfl⟩
  have Hk:=zh hk
  rw [← hk] at hsb
  have IH:=zh ih
  clear ih
  obtain ⟨d,rfl⟩:∃ d,m=d+1:=by
   have:=HM.out
   by_cases hlt:i < spl n
   ·rw [jQ i n hn2 hlt] at this;exact ⟨_,this⟩
   rw [iE i n hn2 hlt] at this;exact ⟨_,this⟩
  have hdb:d+1≤n:=by have:=HM.out;have:=aAC i n;omega
  obtain ⟨b,o,rfl,hra,hbl⟩:=h.at (by omega)
  have hlen:=h.len
  have hle:=h.le
  have hcap:=h.cap
  have hlt2:=aFx ns d hlen
  have hE1:Ext w ((w.alloc (.cells (nmc leaf) 30)).alloc (.cells zcs.toArray 30)).drew:=(((Ext.refl w).alloc' _).alloc' _).drew'
  have hX:Ext ((w.alloc (.cells (nmc leaf) 30)).alloc (.cells zcs.toArray 30)).drew ((w.alloc (.cells (nmc leaf) 30)).alloc (.cells zcs.toArray 30)).drew:=Ext.refl _
  have hz:Blk ((w.alloc (.cells (nmc leaf) 30)).alloc (.cells zcs.toArray 30)).drew (w.heap.size+1) 30 zcs.toArray:=(Blk.newAt _ _ _ _ (by simp)).drew
  have hlf:Blk ((w.alloc (.cells (nmc leaf) 30)).alloc (.cells zcs.toArray 30)).drew w.heap.size 30 (nmc leaf):=((Blk.new w _ _).alloc _).drew
  have hnm:=aX (pV hra (k:=d) (by omega)) (hE1.block b hbl)
  have hbl1:=Nat.lt_of_lt_of_le hbl hE1.size
  have SS:∀ w',Below (w.heap.size+1) ((w.alloc (.cells (nmc leaf) 30)).alloc (.cells zcs.toArray 30)).drew w'→(∀ i,i < 8→w'.cell? ⟨w.heap.size,i,none⟩=some (.int .u8 (nb8 leaf i)))∧(∀ i,i < 8→w'.cell? ⟨b,o+d * 8+i,none⟩=some (.int .u8 (nb8 (gC ns d) i)))∧w'.cell? ⟨b,o+d * 8,none⟩=some (.int .u8 (nb8 (gC ns d) 0)):=fun w' hx =>
   ⟨fK (hlf.below hx (by omega)),aCv (aX hnm (hx.block b (by omega))),aCv (aX hnm (hx.block b (by omega))) 0 (by omega)⟩
  have HB:w.heap.size+1≤((w.alloc (.cells (nmc leaf) 30)).alloc (.cells zcs.toArray 30)).drew.heap.size:=by simp
  have HSS:=zh SS
  clear SS hnm
  have hs1:=(h.upto (k:=d) (by omega)).ext hE1
  have b1:(d:Int) < (d:Int)+1:=by omega
  have b2:d≤c:=by omega
  by_cases hlt:i < k
  ·have HC := zh (yL leaf i n ns hn2 (by rw [← hk]; exact hlt))
   rw [← hk,hlt2.1,hlt2.2] at HC
   have hdk:d=fJ i k:=by have:=HM.out;rw [jQ i n hn2 (by rw [← hk];exact hlt),← hk] at this;omega
   have Hdk:=zh hdk
   clear hk hlt2 hdk
   have hlt':(i:Int) < (k:Int):=by omega
   go_enter Tryz.func258,Tryz.ntmps258
   go_wp2_with (go_at_call 263;refine (nA n _ hn2 (by omega)).mono ?_;rintro e w1 ⟨rfl,rfl⟩;rw [← Hk.out])
   go_region_held3 (fun w'=>(∀ i,i < 8→w'.cell? ⟨w.heap.size,i,none⟩=some (.int .u8 (nb8 leaf i)))∧(∀ i,i < 8→w'.cell? ⟨b,o+d * 8+i,none⟩=some (.int .u8 (nb8 (gC ns d) i)))∧w'.cell? ⟨b,o+d * 8,none⟩=some (.int .u8 (nb8 (gC ns d) 0))) (first | with_reducible exact HSS.out _ (Below.setCells' (Below.mono hX HB) (Nat.le_refl _) _ _) | with_reducible exact HSS.out _ (Below.mono hX HB)) (first | (go_at_call 258;refine (IH.out leaf k i d _ c (ns.take d) _ (by omega) (by omega) hlt Hdk.out (hs1.ext hX)).mono ?_;rintro e w1 ⟨rfl,he1⟩;have hX:=Ext.trans hX he1) | (go_at_call 265;refine (aBw 18 _ _ _).mono ?_;rintro e w2 ⟨rfl,he2⟩;have hX:=Ext.trans hX he2;have hst:=cA (hz.ext hX) (kD 18 (dJ leaf i k (ns.take d)) (gC ns d))))
   go_wp2_with fail
   refine bodyPost_ret (v:=.agg (nmc (kD 18 (dJ leaf i k (ns.take d)) (gC ns d)))) (eL rfl _ _ (w.heap.size+1) _ rfl (blkN (hz.ext hX) _)) rfl ⟨by rw [HC.out],Below.setCells' (hE1.trans hX) (by omega) _ _⟩
  have HC:=zh (vN leaf i n ns hn2 (by rw [← hk];exact hlt))
  rw [← hk,hlt2.1,hlt2.2] at HC
  have hdk:d=fJ (i - k) (n - k):=by have:=HM.out;rw [iE i n hn2 (by rw [← hk];exact hlt),← hk] at this;omega
  have Hdk:=zh hdk
  clear hk hlt2 hdk
  have hlt':¬ (i:Int) < (k:Int):=by omega
  have hsub:IntKind.i64.wrap ((i:Int) - (k:Int))=((i - k:Nat):Int):=by rw [IntKind.wrap_i64];omega
  have hsub2:IntKind.i64.wrap ((n:Int) - (k:Int))=((n - k:Nat):Int):=by rw [IntKind.wrap_i64];omega
  go_enter Tryz.func258,Tryz.ntmps258
  go_wp2_with (go_at_call 263;refine (nA n _ hn2 (by omega)).mono ?_;rintro e w1 ⟨rfl,rfl⟩;rw [← Hk.out])
  go_region_held3 (fun w'=>(∀ i,i < 8→w'.cell? ⟨w.heap.size,i,none⟩=some (.int .u8 (nb8 leaf i)))∧(∀ i,i < 8→w'.cell? ⟨b,o+d * 8+i,none⟩=some (.int .u8 (nb8 (gC ns d) i)))∧w'.cell? ⟨b,o+d * 8,none⟩=some (.int .u8 (nb8 (gC ns d) 0))) (first | with_reducible exact HSS.out _ (Below.setCells' (Below.mono hX HB) (Nat.le_refl _) _ _) | with_reducible exact HSS.out _ (Below.mono hX HB)) (first | (go_at_call 258;refine (IH.out leaf (n - k) (i - k) d _ c (ns.take d) _ (by omega) (by omega) (by omega) Hdk.out (hs1.ext hX)).mono ?_;rintro e w1 ⟨rfl,he1⟩;have hX:=Ext.trans hX he1) | (go_at_call 265;refine (aBw 18 _ _ _).mono ?_;rintro e w2 ⟨rfl,he2⟩;have hX:=Ext.trans hX he2;have hst:=cA (hz.ext hX) (kD 18 (gC ns d) (dJ leaf (i - k) (n - k) (ns.take d)))))
  go_wp2_with fail
  refine bodyPost_ret (v:=.agg (nmc (kD 18 (gC ns d) (dJ leaf (i - k) (n - k) (ns.take d))))) (eL rfl _ _ (w.heap.size+1) _ rfl (blkN (hz.ext hX) _)) rfl ⟨by rw [HC.out],Below.setCells' (hE1.trans hX) (by omega) _ _⟩
theorem aDz (leaf:UInt64) (n i m:Nat) (A:Option Addr) (c:Nat) (ns:List UInt64) (w:World) (hmx:n≤1000000) (hi:i < n) (hm:m=fJ i n) (h:SlN w A m c ns) :
  Calls Tryz.prog 239 #[.agg (nmc leaf),.int .i64 (i:Int),.int .i64 (n:Int),.slice A m c] w fun e w'=>e=.returned (.tuple #[.agg (nmc (dJ leaf i n ns)),.bool true])∧Ext w w':=by
 have hrl:=dP ((Blk.new w 30 (nmc leaf)).alloc (.cells zcs.toArray 30))
 have hs:=h.ext (((Ext.refl w).alloc' (.cells (nmc leaf) 30)).alloc' (.cells zcs.toArray 30))
 have HM:=zh hm
 clear hm
 have hq:((m:Int) != (m:Int))=false:=by simp
 go_enter Tryz.func239,Tryz.ntmps239
 go_wp2_with (first | (go_at_call 257;refine (aHv i n _ hi hmx).mono ?_;rintro e w1 ⟨rfl,rfl⟩;rw [← HM.out]) | (refine bE rfl (.tmp 4) rfl w.heap.size 0 rfl leaf hrl ?_))
 refine (aAD n leaf n i m A c ns _ (Nat.le_refl _) hmx hi HM.out hs).mono ?_
 rintro e w3 ⟨rfl,he3⟩
 have hb0:Blk w3 (w.heap.size+1) 30 zcs.toArray:=(Blk.newAt _ _ _ _ (by simp)).ext he3
 go_wp2_with (with_reducible refine aW rfl _ _ rfl (w.heap.size+1) 0 _ rfl rfl (dZ hb0) ?_)
 refine bodyPost_ret (v:=.tuple #[.agg (nmc (dJ leaf i n ns)),.bool true]) (aJo rfl _ _ (w.heap.size+1) _ _ rfl rfl (blkN hb0 _)) rfl ⟨rfl,Below.setCells' ((((Ext.refl w).alloc' _).alloc' _).trans he3) (by omega) _ _⟩
theorem iH (w:World) (g:Nat) (hg:w.heap.size=g) (r:UInt64):(storeCells ⟨g,0,none⟩ (nmc r).toList).run Tryz.prog (w.alloc (.cells zcs.toArray 30))=.ok () (w.alloc (.cells (nmc r) 30)):=by
 subst hg
 rw [cA (Blk.new w _ _) r,eU _ _ _ _ (by rw [cP];rfl)]
end
end Go.Proofs.YtohmmcahpakokaaGreat
