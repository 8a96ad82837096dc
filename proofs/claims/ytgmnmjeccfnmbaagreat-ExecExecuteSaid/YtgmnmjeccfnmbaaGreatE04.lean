import Derived.Test.YtgmnmjeccfnmbaaGreatE03
set_option maxRecDepth 100000
set_option maxHeartbeats 8000000
set_option linter.unusedVariables false
set_option linter.unusedSimpArgs false
namespace Go.Proofs.YtgmnmjeccfnmbaaGreat
open Go.Proofs.Tryz
section
open Go.RowKit
def aOd (seed:UInt64) (lv t j:Int):List UInt8:=nmb seed ++ [toB lv,toB (t / 256),toB t,toB j]
def vJ (seed:UInt64) (lv t j:Int):UInt64:=dY 48 (aOd seed lv t j)
def lX (seed:UInt64) (lv t:Int) (j:Nat):UInt64:=xG (vJ seed lv t j)
def cJ (seed:UInt64) (lv t:Int):List UInt64:=(List.range 32).map (lX seed lv t)
theorem oS (seed:UInt64) (lv t:Int):(cJ seed lv t).length=32:=by simp [cJ]
theorem SlB.new4 (w:World) (t:TypeId) (z0 z1 z2 z3:Int) (c0 c1 c2 c3:UInt8) (g:Nat) (hg:w.heap.size=g) (h0:z0=(c0.toNat:Int)) (h1:z1=(c1.toNat:Int)) (h2:z2=(c2.toNat:Int)) (h3:z3=(c3.toNat:Int)) :
  SlB (w.alloc (.cells #[.int .u8 z0,.int .u8 z1,.int .u8 z2,.int .u8 z3] t)) (some ⟨g,0,none⟩) 4 4 [c0,c1,c2,c3] :=
 SlB.new hg [c0,c1,c2,c3] (by rw [h0,h1,h2,h3];rfl) (by simp)
theorem nB (x:UInt64) (lv t j:Int) (ht:0≤t) (ht2:t≤100000) (w:World) :
  Calls prog 112 #[.agg (nmc x),.int .i64 lv,.int .i64 t,.int .i64 j] w fun e w'=>e=.returned (.agg (nmc (vJ x lv t j)))∧Ext w w':=by
 have HU:=zh (show vJ x lv t j=dY 48 (nmb x ++ [toB lv,toB (t / 256),toB t,toB j]) from rfl)
 go_enter func112,ntmps112
 go_wp2_with (at_builtin;go_must (refine cB bU rfl (.tmp 9) (.tmp 10) rfl (w.heap.size+2) _ _ _ [] rfl ?o1 _ _ _ (nmb x) rfl ?r1 ?n1 ?b1 ((w.alloc (.cells (nmc x) 50)).alloc (.cells zcs.toArray 50)) ?w1 ?_))
 case o1=>exact OwnB.made _ _ _ 0 _ dr (Nat.le_refl _) aa dr
 case r1=>exact SlB.blkN (((Blk.new w _ (nmc x)).alloc _).alloc _)
 case n1=>omega
 case b1=>simp
 case w1=>exact Below.alloc (Below.refl _ _) dr _
 intro A1 c1 w1 ho1 hw1 hs1
 have hsz:w.heap.size+2≤w1.heap.size:=aa
 go_wp2_with (at_builtin;go_must (refine cB bU rfl (.tmp 11) (.tmp 21) rfl (w.heap.size+2) _ _ _ (nmb x) rfl (ho1.alloc _) _ _ _ [toB lv,toB (t / 256),toB t,toB j] rfl ?r1 aa ?b1 ((w.alloc (.cells (nmc x) 50)).alloc (.cells zcs.toArray 50)) ?w1 ?_))
 case r1=>exact SlB.new4 _ _ _ _ _ _ (toB lv) (toB (t / 256)) (toB t) (toB j) _ rfl (bM lv) (bM _) (bM t) (bM j)
 case b1=>simp;omega
 case w1=>exact Below.alloc hw1 hsz _
 intro A2 c2 w2 ho2 hw2 hs2
 have hsz2:w.heap.size+2≤w2.heap.size:=aa
 go_wp2_with fail
 refine zcl (dA 48 _ _ _ _ _ ho2.sl aa) fun w3 he3=>?_
 have hE3:Below (w.heap.size+2) ((w.alloc (.cells (nmc x) 50)).alloc (.cells zcs.toArray 50)) w3:=Below.trans hw2 (he3.mono aa)
 have hb0:Blk w3 (w.heap.size+1) 50 zcs.toArray:=(Blk.newAt (w.alloc (.cells (nmc x) 50)) 50 zcs.toArray (w.heap.size+1) dr).below hE3 aa
 have hst:=bF hb0 (dY 48 (nmb x ++ [toB lv,toB (t / 256),toB t,toB j]))
 go_wp2_with fail
 refine bodyPost_ret (v:=.agg (nmc (dY 48 (nmb x ++ [toB lv,toB (t / 256),toB t,toB j])))) (eQ rfl _ _ (w.heap.size+1) _ rfl (blkN hb0 _)) rfl ⟨by rw [HU.out],Below.setCells' ((((Ext.refl w).alloc' _).alloc' _).trans j8) aa _ _⟩
theorem gV (seed:UInt64) (lv t:Int) (ht:0≤t) (ht2:t≤100000) (w:World) :
  Calls prog 106 #[.agg (nmc seed),.int .i64 lv,.int .i64 t] w fun e w'=>∃ A c,e=.returned (.slice A 32 c)∧SlN w' A 32 c (cJ seed lv t)∧Ext w w':=by
 go_enter func106,ntmps106
 go_wp2_with fail
 have HB0:=zh (Blk.new w 50 (nmc seed))
 have HA0:=zh ((Ext.refl w).alloc' (.cells (nmc seed) 50))
 generalize w.alloc (.cells (nmc seed) 50)=W0 at *
 go_loopw [7,8] (fun v i wr=>∃ (k:Nat) (A1:Option Addr) (c1:Nat),k≤32∧i=.int .i64 (k:Int)∧v=.slice A1 k c1∧wr.ownsRow W0.heap.size 50 8 (.slice A1 k c1) k (ncs ((List.range k).map (lX seed lv t)))∧Ext W0 wr) (fun _ i _=>32 - (intOf i).toNat)
 case atStart=>exact ⟨0,_,_,aa,rfl,rfl,World.ownsRow_nil _ _ _ _,Ext.refl _⟩
 case round =>
  obtain ⟨k,A1,c1,hk,rfl,rfl,hO,hE⟩:=hrel
  have HO:=zh hO
  have HE:=zh hE
  have hrs:=dL (HB0.out.ext hE)
  clear hO hE
  by_cases hlt:k < 32
  ·have HR := zh (show (List.range (k + 1)).map (lX seed lv t) = (List.range k).map (lX seed lv t) ++ [lX seed lv t k] by rw [List.range_succ, List.map_append]; rfl)
   have j1:(k:Int) < 32:=aa
   go_wp2_with (with_reducible refine aM rfl (.tmp 3) rfl w.heap.size 0 rfl seed hrs ?_)
   refine zcl (nB seed lv t k ht ht2 _) fun w1 he1=>?_
   go_wp2_with fail
   refine zcl (tF _ _) fun w2 he2=>?_
   have HE2:=zh (HE.out.trans (he1.trans he2))
   have HO2:=zh (bC HO.out (he1.trans he2))
   clear he1 he2 hrs
   go_wp2_with (at_builtin;go_must (refine fS cY rfl (.tmp 13) (.tmp 20) rfl W0.heap.size A1 k c1 (ncs ((List.range k).map (lX seed lv t))) rfl (bC HO2.out ((Ext.refl _).alloc' _)) (some ⟨w2.heap.size,0,none⟩) 1 1 (ncs [lX seed lv t k]) rfl (Rd.newN _ _ _ _ rfl) kn (lU _) aa aa ?z1 W0 ?z2 ?_))
   case z1=>exact (HE2.out.alloc' _).size
   case z2=>exact HE2.out.alloc' _
   exact xx
  obtain rfl:k=32:=aa
  go_wp2_with fail
  go_ret
  exact ⟨A1,c1,rfl,SlN.of_own HO.out,HA0.out.trans HE.out⟩
def aNd (seed:UInt64) (lv:Int):UInt64:=dS (cJ seed lv 0)
theorem zK (seed:UInt64) (lv:Int) (h1:1≤lv) (h2:lv≤2) (w:World) :
  Calls prog 46 #[.agg (nmc seed),.int .i64 lv] w fun e w'=>e=.returned (.agg (nmc (aNd seed lv)))∧Ext w w':=by
 have hB:Blk ((w.alloc (.cells (nmc seed) 50)).alloc (.cells zcs.toArray 50)) (w.heap.size+1) 50 zcs.toArray:=Blk.newAt _ _ _ _ dr
 have HB:=zh hB
 have hrs:=dL ((Blk.new w 50 (nmc seed)).alloc (.cells zcs.toArray 50))
 have HE:=zh (((Ext.refl w).alloc' (.cells (nmc seed) 50)).alloc' (.cells zcs.toArray 50))
 clear hB
 go_enter func46,ntmps46
 go_wp2_with (with_reducible refine aM rfl (.tmp 2) rfl w.heap.size 0 rfl seed hrs ?_)
 refine (gV seed lv 0 aa aa _).mono ?_
 rintro e w1 ⟨A1,c1,rfl,hs1,he1⟩
 go_wp2_with fail
 refine zcl (lQ 32 32 A1 c1 _ _ aa aa hs1) fun w2 he2=>?_
 have hb2:=HB.out.ext (he1.trans he2)
 have hst:=bF hb2 (dS (cJ seed lv 0))
 go_wp2_with fail
 refine bodyPost_ret (v:=.agg (nmc (dS (cJ seed lv 0)))) (eQ rfl _ _ (w.heap.size+1) _ rfl (blkN hb2 _)) rfl ⟨rfl,Below.setCells' (HE.out.trans (he1.trans he2)) aa _ _⟩
theorem aDD (w:World) (row:Option Nat):w.grownBy w row:=⟨rfl,rfl,rfl,Nat.le_refl _,fun _ _ _=>rfl⟩
theorem aAT {P:Program} {t e:TypeId} {ops:Array Oper} {rest:List Oper} {o:Oper} {a:Act} {w:World} {Q:Exit→Act→World→Prop} (E:Elem P t e (.int .u8 0) 1 1) (hgd:o.guard=none) (s x:Operand)
  (ho:o.op=.call { callee:=.builtin .append,args:=#[s,x],argTypes:=#[t,t] })
  (base:Nat) (A:Option Addr) (n c:Nat) (l:List UInt8) (hs:a.eval s=.slice A n c) (hown:OwnB w base e A n c l)
  (A2:Option Addr) (m c2:Nat) (l2:List UInt8) (hx:a.eval x=.slice A2 m c2) (hr:SlB w A2 m c2 l2) (hm:0 < m)
  (hb:n+m≤140737488355328) (hbase:base≤w.heap.size)
  (h:∀ A' c' w',OwnB w' base e A' (n+m) c' (l ++ l2)→w.grownBy w' (Value.ownBlock (.slice A n c))→(∀ g,Value.ownBlock (.slice A' (n+m) c')=some g→Value.ownBlock (.slice A n c)=some g ∨ w.heap.size≤g)→wpList P ops Q rest (a.put o.dst (.slice A' (n+m) c')) w'):wpList P ops Q (o :: rest) a w:=by
 obtain ⟨i,hi,hz,hsz,hby⟩:=E.get
 obtain ⟨b,ob,rfl,hra,_⟩:=hr.at hm
 refine wpList_append_lies (w:=w) hgd s x t ho base e i _ 1 1 E.ut hi hz hsz hby E.zs E.pos (.slice A n c) n (bcs l) hs hown ⟨b,ob,none⟩ m c2 (bcs l2) hx ff (fun j u hu=>by rw [Addr.add_mid];exact hra j u hu) (dU l2) hm gm aa hbase _ rfl ?_
 intro g cap w' h2 h3 h4 h5
 exact h _ _ _ (by unfold OwnB;rw [fK];exact h2) h3 (fun g' hg'=>by
  have:g=g':=by simpa [Value.ownBlock] using hg'
  subst this
  rcases h4 with h | h
  ·exact .inl h
  exact .inr aa)
theorem SlN.grown {w w':World} {N:Option Addr} {n c:Nat} {ns:List UInt64} {row:Option Nat} (h:SlN w N n c ns) (hg:w.grownBy w' row) (hne:∀ b o,N=some ⟨b,o,none⟩→row ≠ some b):SlN w' N n c ns:=by
 refine ⟨h.len,h.le,h.cap,?_⟩
 by_cases hx:ncs ns=[]
 ·exact .inl hx
 obtain ⟨b,o,rfl,hr,hlt⟩:=h.rd.at hx
 exact .inr ⟨b,o,rfl,aY hr (hg.block b hlt (fun e=>hne b o rfl e.symm))⟩
theorem aBr (base:Nat) (A:Option Addr) (n c:Nat) (l:List UInt8) (N:Option Addr) (k c1:Nat) (ns:List UInt64) (w:World) (hO:OwnB w base 5 A n c l) (hN:SlN w N k c1 ns) (hk:k≤1000) (hn:n≤1000000) (hb:base≤w.heap.size)
  (hne:∀ b o,N=some ⟨b,o,none⟩→Value.ownBlock (.slice A n c) ≠ some b) :
  Calls prog 110 #[.slice A n c,.slice N k c1] w fun e w'=>∃ A' c',e=.returned (.slice A' (n+k * 8) c')∧OwnB w' base 5 A' (n+k * 8) c' (l ++ ns.flatMap nmb)∧w.grownBy w' (Value.ownBlock (.slice A n c))∧(∀ g,Value.ownBlock (.slice A' (n+k * 8) c')=some g→Value.ownBlock (.slice A n c)=some g ∨ w.heap.size≤g):=by
 have hlen:=hN.len
 have HN:=zh hN
 have HNE:=zh hne
 have HLen:=zh hlen
 have HO0:=zh hO
 clear hN hne hlen hO
 go_enter func110,ntmps110
 go_wp2_with fail
 go_loopw [0,5] (fun v i wr=>∃ (j:Nat) (A1:Option Addr) (cc:Nat),j≤k∧i=.int .i64 (j:Int)∧v=.slice A1 (n+j * 8) cc∧OwnB wr base 5 A1 (n+j * 8) cc (l ++ (ns.take j).flatMap nmb)∧w.grownBy wr (Value.ownBlock (.slice A n c))∧(∀ g,Value.ownBlock (.slice A1 (n+j * 8) cc)=some g→Value.ownBlock (.slice A n c)=some g ∨ w.heap.size≤g)) (fun _ i _=>k - (intOf i).toNat)
 case atStart=>exact ⟨0,A,c,aa,rfl,dr,by simpa using HO0.out,aDD _ _,fun g hg=>.inl (by simpa using hg)⟩
 case round =>
  obtain ⟨j,A1,cc,hj,rfl,rfl,hO,hG,hL⟩:=hrel
  have HO:=zh hO
  have HG:=zh hG
  have HL:=zh hL
  clear hO hG hL
  by_cases hlt:j < k
  ·have hsn := SlN.grown HN.out HG.out HNE.out
   obtain ⟨bN,oN,rfl,hra,hbl⟩:=hsn.at aa
   have hjl:j < ns.length:=by have:=HLen.out;omega
   have HSB:=zh (show SlB wr (some ⟨bN,oN+j * 8,none⟩) 8 8 (nmb (dO ns j)) from ⟨aK _,Nat.le_refl _,aa,.inr ⟨_,_,rfl,lH hra hjl⟩⟩)
   have HF:=zh (show l ++ (ns.take (j+1)).flatMap nmb=l ++ ((ns.take j).flatMap nmb ++ nmb (dO ns j)) from by rw [tQ ns j hjl];rfl)
   have j0:(0:Int)≤(j:Int):=aa
   have j1:(j:Int) < (k:Int):=aa
   clear hsn hra hjl
   go_wp2_with (at_builtin;go_must (refine aAT bU rfl (.tmp 12) (.tmp 16) rfl base A1 (n+j * 8) cc (l ++ (ns.take j).flatMap nmb) rfl HO.out _ 8 8 (nmb (dO ns j)) rfl HSB.out aa aa (Nat.le_trans hb HG.out.size) ?_))
   intro A4 c4 w4 hO4 hG4 hL4
   have HG4:=zh (show w.grownBy w4 (Value.ownBlock (.slice A n c)) from ⟨hG4.os.trans HG.out.os,hG4.tape.trans HG.out.tape,hG4.output.trans HG.out.output,Nat.le_trans HG.out.size hG4.size,fun q hq hqr=>by
    rw [hG4.block q (Nat.lt_of_lt_of_le hq HG.out.size) (fun e=>by
     rcases HL.out q e.symm with h | h
     ·exact hqr h.symm
     omega),HG.out.block q hq hqr]⟩)
   have HL4:=zh (show ∀ g,Value.ownBlock (.slice A4 (n+j * 8+8) c4)=some g→Value.ownBlock (.slice A n c)=some g ∨ w.heap.size≤g from fun g hg=>by
    rcases hL4 g hg with h | h
    ·exact HL.out g h
    exact .inr (Nat.le_trans HG.out.size h))
   have HE:=zh (show n+j * 8+8=n+(j+1) * 8 by omega)
   clear hG4 hL4
   go_wp2_with fail
   go_roundw
   case rel=>exact ⟨j+1,A4,c4,aa,ar,by rw [HE.out],by rw [HF.out,← HE.out];exact hO4,HG4.out,by rw [← HE.out];exact HL4.out⟩
   case measure=>simp [intOf];omega
  obtain rfl:j=k:=aa
  have HT:=zh (show ns.take j=ns from List.take_of_length_le (by have:=HLen.out;omega))
  go_wp2_with fail
  go_ret
  exact ⟨A1,cc,rfl,by have:=HO.out;rwa [HT.out] at this,HG.out,HL.out⟩
theorem SlN.ne_small {w:World} {N:Option Addr} {n c:Nat} {ns:List UInt64} {g:Nat} {t:TypeId} {cs:Array Value} (h:SlN w N n c ns) (hb:Blk w g t cs) (hs:cs.size < n * 8):∀ b o,N=some ⟨b,o,none⟩→some g ≠ some b:=by
 intro b o hN he
 injection he with he
 subst he
 have hl:=h.len
 obtain ⟨b',o',e,hr,_⟩:=h.at aa
 rw [hN] at e
 injection e with e
 injection e with e1 e2
 subst e1
 have hlen:(ncs ns).length=n * 8:=by rw [cR,hl]
 have hx:(ncs ns)[n * 8 - 1]?=some ((ncs ns)[n * 8 - 1]' aa):=List.getElem?_eq_getElem aa
 have hc:=hr (n * 8 - 1) _ hx
 rw [hb.cell] at hc
 have:=(Array.getElem?_eq_some_iff.1 hc).1
 omega
theorem aDh (w:World) (base g:Nat) (z0 z1:Int) (c0 c1:UInt8) (hg:w.heap.size=g) (hb:base≤g) (h0:z0=(c0.toNat:Int)) (h1:z1=(c1.toNat:Int)):OwnB (w.alloc (.cells #[.int .u8 z0,.int .u8 z1] 5)) base 5 (some ⟨g,0,none⟩) 2 2 [c0,c1]:=by
 subst hg
 have:=World.ownsRow_lit (base:=base) (e:=5) (size:=1) w #[.int .u8 z0,.int .u8 z1] 2 hb (by unfold maxLen;omega) rfl
 unfold OwnB
 rw [show bcs [c0,c1]=(#[.int .u8 z0,.int .u8 z1]:Array Value).toList from by rw [h0,h1];rfl]
 exact this
theorem aGc (n k r:Nat) (hr:n+k * 8=r) (base:Nat) (A:Option Addr) (c:Nat) (l:List UInt8) (N:Option Addr) (c1:Nat) (ns:List UInt64) (w:World) (hO:OwnB w base 5 A n c l) (hN:SlN w N k c1 ns) (hk:k≤1000∧n≤1000000) (hb:base≤w.heap.size)
  (hne:∀ b o,N=some ⟨b,o,none⟩→Value.ownBlock (.slice A n c) ≠ some b) :
  Calls prog 110 #[.slice A n c,.slice N k c1] w fun e w'=>∃ A' c',e=.returned (.slice A' r c')∧OwnB w' base 5 A' r c' (l ++ ns.flatMap nmb)∧w.grownBy w' (Value.ownBlock (.slice A n c))∧(∀ g,Value.ownBlock (.slice A' r c')=some g→Value.ownBlock (.slice A n c)=some g ∨ w.heap.size≤g):=by
 subst hr;exact aBr base A n c l N k c1 ns w hO hN hk.1 hk.2 hb hne
def yW (seed:UInt64) (leaf:Nat) (m:UInt64):List UInt8:=[0,toB (leaf:Int)] ++ (gQ (vJ seed 1 0 (leaf:Int)) m).flatMap nmb ++ (gP (cJ seed 1 0) leaf).flatMap nmb
def Lit2 (w:World) (base g:Nat) (leaf:Int):Prop:=OwnB w base 5 (some ⟨g,0,none⟩) 2 2 [0,toB leaf]∧Blk w g 5 #[.int .u8 0,.int .u8 (IntKind.u8.wrap leaf)]
theorem Lit2.ext {w w':World} {base g:Nat} {leaf:Int} (h:Lit2 w base g leaf) (he:Ext w w'):Lit2 w' base g leaf:=⟨h.1.ext he,h.2.ext he⟩
theorem aBH (wl w':World) (base:Nat) (leaf:Int) (hb:base≤wl.heap.size) (he:Ext (wl.alloc (.cells #[.int .u8 0,.int .u8 (IntKind.u8.wrap leaf)] 5)) w'):Lit2 w' base wl.heap.size leaf :=
 Lit2.ext ⟨aDh wl base _ 0 _ 0 (toB leaf) rfl hb rfl (bM leaf),Blk.new _ _ _⟩ he
theorem xP {w:World} {base g:Nat} {leaf:Int} {N:Option Addr} {c1:Nat} {ns:List UInt64} (hL:Lit2 w base g leaf) (hN:SlN w N 18 c1 ns) (hb:base≤w.heap.size) :
  Calls prog 110 #[.slice (some ⟨g,0,none⟩) 2 2,.slice N 18 c1] w fun e w'=>∃ A' c',e=.returned (.slice A' 146 c')∧OwnB w' base 5 A' 146 c' ([0,toB leaf] ++ ns.flatMap nmb)∧Below base w w':=by
 exact wh
theorem xO {w:World} {base:Nat} {A:Option Addr} {c:Nat} {l:List UInt8} {N:Option Addr} {c1:Nat} {ns:List UInt64} (hO:OwnB w base 5 A 146 c l) (hN:SlN w N 5 c1 ns) (hb:base≤w.heap.size) (hlow:∀ b o,N=some ⟨b,o,none⟩→b < base) :
  Calls prog 110 #[.slice A 146 c,.slice N 5 c1] w fun e w'=>∃ A' c',e=.returned (.slice A' 186 c')∧OwnB w' base 5 A' 186 c' (l ++ ns.flatMap nmb)∧Below base w w':=by
 refine (aGc 146 5 186 rfl base _ _ _ N c1 ns w hO hN aa hb (fun b o hNb hk=>by
  have h1:=(World.ownsRow.lt hO b hk).1
  have h2:=hlow b o hNb
  omega)).mono ?_
 exact yl
theorem aBp (seed m:UInt64) (leaf:Nat) (hlf:leaf < 32) (w:World) :
  Calls prog 48 #[.agg (nmc seed),.int .i64 1,.int .i64 (leaf:Int),.agg (nmc m)] w fun e w'=>∃ A c,e=.returned (.tuple #[.slice A 186 c,.bool true])∧SlB w' A 186 c (yW seed leaf m)∧Ext w w':=by
 have hbs:=(Blk.new w 50 (nmc seed)).alloc (.cells (nmc m) 50)
 have hbm:Blk ((w.alloc (.cells (nmc seed) 50)).alloc (.cells (nmc m) 50)) (w.heap.size+1) 50 (nmc m):=Blk.newAt _ _ _ _ dr
 have HE0:=zh (((Ext.refl w).alloc' (.cells (nmc seed) 50)).alloc' (.cells (nmc m) 50))
 have HBS:=zh hbs
 have HBM:=zh hbm
 have hrs:=dL hbs
 have l0:(0:Int)≤(leaf:Int):=aa
 have l1:(leaf:Int) < 32:=aa
 have HDP:=zh (sO leaf hlf)
 have HT:=zh (bM (leaf:Int))
 clear hbs hbm
 go_enter func48,ntmps48
 go_wp2_with (with_reducible refine aM rfl (.tmp 4) rfl w.heap.size 0 rfl seed hrs ?_)
 refine (gV seed 1 0 aa aa _).mono ?_
 rintro e w1 ⟨A1,c1,rfl,hs1,he1⟩
 clear hrs
 go_wp2_with fail
 refine (oM 32 32 leaf A1 c1 _ _ aa aa hlf hs1).mono ?_
 rintro e w2 ⟨A2,c2,rfl,ho2,he2⟩
 rw [HDP.out] at ho2 ⊢
 have hsp:=SlN.of_own ho2
 have HSP:=zh hsp
 have HE2:=zh (HE0.out.trans (he1.trans he2))
 have HBS2:=zh (HBS.out.ext (he1.trans he2))
 have HBM2:=zh (HBM.out.ext (he1.trans he2))
 have HPL:=zh (show ∀ b o,A2=some ⟨b,o,none⟩→b < w2.heap.size from fun b o e=>by
  obtain ⟨b',o',e',_,hlt⟩:=hsp.at aa
  exact zk)
 clear ho2 he1 he2 hs1 hsp HBS HBM HE0
 go_wp2_with fail
 have HSS:=zh (fun (w':World) (hx:Ext w2.drew w')=>(⟨dM (HBS2.out.drew.ext hx),dM (HBM2.out.drew.ext hx)⟩:(∀ i,i < 8→w'.cell? ⟨w.heap.size,i,none⟩=some (.int .u8 (nb8 seed i)))∧(∀ i,i < 8→w'.cell? ⟨w.heap.size+1,i,none⟩=some (.int .u8 (nb8 m i)))))
 have hX:=Ext.refl w2.drew
 have HAD:=zh (fun (o:Obj)=>(show Ext w2.drew (w2.alloc o).drew from ((Ext.refl w2.drew).alloc' o:Ext w2.drew (w2.drew.alloc o))))
 have HZ0:=zh (show (0:Int)≤0∧(0:Int)≤100000 from aa)
 have H18:=zh (show 18≤1000∧2≤1000000 from aa)
 have H5:=zh (show 5≤1000∧146≤1000000 from aa)
 have HLB:=zh (show (0:Int)=((0:UInt8).toNat:Int) from rfl)
 have HSP2:=zh (fun (w':World) (hx:Ext w2.drew w')=>HSP.out.ext ((Ext.refl w2).drew'.trans hx))
 go_region_held3 (fun w'=>(∀ i,i < 8→w'.cell? ⟨w.heap.size,i,none⟩=some (.int .u8 (nb8 seed i)))∧(∀ i,i < 8→w'.cell? ⟨w.heap.size+1,i,none⟩=some (.int .u8 (nb8 m i)))) (first | (with_reducible exact HSS.out _ hX) | (with_reducible exact HSS.out _ (HAD.out _)) | (with_reducible exact HSS.out _ (hX.alloc' _)) | (with_reducible exact HSS.out _ HW9.out)) (first | (go_at_call 112;(with_reducible refine zcl (nB seed 1 0 _ HZ0.out.1 HZ0.out.2 _) fun w3 he3=>?_);first | (have hL:=aBH w2 _ w2.heap.size (leaf:Int) (Nat.le_refl _) ((Ext.refl _).drew'.trans he3);have hX:=(HAD.out _).trans he3) | (have hX:=hX.trans he3)) | (go_at_call 111;(with_reducible refine (oP _ m _).mono ?_);rintro e w4 ⟨A4,c4,rfl,hs4,he4⟩;have hX4:=zh (fun (o:Obj)=>(Ext.refl w4).alloc' o);first | (have hL:=hL.ext he4;have hX:=hX.trans he4) | (have hL:=aBH w3 _ w2.heap.size (leaf:Int) hX.size he4;have hX:=(hX.alloc' _).trans he4) | (have hX:=hX.trans he4)) | (go_at_call 110;first | (have hb5:w2.heap.size≤w4.heap.size:=hX.size;(with_reducible refine (xP hL hs4 hb5).mono ?_);rintro e w5 ⟨A5,c5,rfl,hO5,hB5⟩;have hX:=Below.trans hX hB5) | (have hL:=aBH w4 _ w2.heap.size (leaf:Int) hX.size (Ext.refl _);have hb5:=zh (fun (o:Obj)=>(show w2.heap.size≤(w4.alloc o).heap.size from (hX.alloc' o).size));(with_reducible refine (xP hL (hs4.ext (hX4.out _)) (hb5.out _)).mono ?_);rintro e w5 ⟨A5,c5,rfl,hO5,hB5⟩;have hX:=Below.trans (hX.alloc' _) hB5) | (have hb6:w2.heap.size≤w5.heap.size:=hX.size;(with_reducible refine (xO hO5 (HSP2.out _ hX) hb6 HPL.out).mono ?_);rintro e w6 ⟨A6,c6,rfl,hO6,hB6⟩;have hX:=Below.trans hX hB6) | fail "NAMES"))
 all_goals (go_wp2_with fail;go_ret2;exact ⟨A6,c6,rfl,hO6.sl,HE2.out.trans ((Ext.refl w2).drew'.trans hX)⟩)
def aAc (seed:UInt64) (A:Option Addr) (c:Nat):Array Value:=#[.int .u8 (nb8 seed 0),.int .u8 (nb8 seed 1),.int .u8 (nb8 seed 2),.int .u8 (nb8 seed 3),.int .u8 (nb8 seed 4),.int .u8 (nb8 seed 5),.int .u8 (nb8 seed 6),.int .u8 (nb8 seed 7),.slice A 32 c,.slice none 0 0,.slice none 0 0,.slice none 0 0,.slice none 0 0,.slice none 0 0,.slice none 0 0,.slice none 0 0,.slice none 0 0,.slice none 0 0,.slice none 0 0,.slice none 0 0,.slice none 0 0,.slice none 0 0,.slice none 0 0,.slice none 0 0,.slice none 0 0,.slice none 0 0,.slice none 0 0,.slice none 0 0,.slice none 0 0,.slice none 0 0,.slice none 0 0,.slice none 0 0,.slice none 0 0,.slice none 0 0,.slice none 0 0,.slice none 0 0,.slice none 0 0,.slice none 0 0,.slice none 0 0,.slice none 0 0,.slice none 0 0]
@[go_sem] theorem aMk (n:UInt64):Array.foldl (fun (cs:Array Value) (x:Value × Nat)=>cs.setIfInBounds x.snd x.fst) #[.int .u8 0,.int .u8 0,.int .u8 0,.int .u8 0,.int .u8 0,.int .u8 0,.int .u8 0,.int .u8 0,.slice none 0 0,.slice none 0 0,.slice none 0 0,.slice none 0 0,.slice none 0 0,.slice none 0 0,.slice none 0 0,.slice none 0 0,.slice none 0 0,.slice none 0 0,.slice none 0 0,.slice none 0 0,.slice none 0 0,.slice none 0 0,.slice none 0 0,.slice none 0 0,.slice none 0 0,.slice none 0 0,.slice none 0 0,.slice none 0 0,.slice none 0 0,.slice none 0 0,.slice none 0 0,.slice none 0 0,.slice none 0 0,.slice none 0 0,.slice none 0 0,.slice none 0 0,.slice none 0 0,.slice none 0 0,.slice none 0 0,.slice none 0 0,.slice none 0 0] (nmc n).zipIdx 0 8=#[.int .u8 (nb8 n 0),.int .u8 (nb8 n 1),.int .u8 (nb8 n 2),.int .u8 (nb8 n 3),.int .u8 (nb8 n 4),.int .u8 (nb8 n 5),.int .u8 (nb8 n 6),.int .u8 (nb8 n 7),.slice none 0 0,.slice none 0 0,.slice none 0 0,.slice none 0 0,.slice none 0 0,.slice none 0 0,.slice none 0 0,.slice none 0 0,.slice none 0 0,.slice none 0 0,.slice none 0 0,.slice none 0 0,.slice none 0 0,.slice none 0 0,.slice none 0 0,.slice none 0 0,.slice none 0 0,.slice none 0 0,.slice none 0 0,.slice none 0 0,.slice none 0 0,.slice none 0 0,.slice none 0 0,.slice none 0 0,.slice none 0 0,.slice none 0 0,.slice none 0 0,.slice none 0 0,.slice none 0 0,.slice none 0 0,.slice none 0 0,.slice none 0 0,.slice none 0 0]:=by
 rw [← gI n]
 kernel_rfl
theorem zM (seed:UInt64) (w:World) :
  Calls prog 107 #[.agg (nmc seed)] w fun e w'=>∃ B A c,e=.returned (.pointer (some ⟨B,0,none⟩))∧Blk w' B 187 (aAc seed A c)∧SlN w' A 32 c (cJ seed 2 0)∧Ext w w':=by
 have hbs:=Blk.new w 50 (nmc seed)
 have HE0:=zh ((Ext.refl w).alloc' (.cells (nmc seed) 50))
 have HBS:=zh hbs
 have hrs:=dL hbs
 go_enter func107,ntmps107
 go_wp2_with fail
 have HSS:=zh (fun (w':World) (hx:Ext (w.alloc (.cells (nmc seed) 50)).drew w')=>(dM (HBS.out.drew.ext hx):∀ i,i < 8→w'.cell? ⟨w.heap.size,i,none⟩=some (.int .u8 (nb8 seed i))))
 have hX:=Ext.refl (w.alloc (.cells (nmc seed) 50)).drew
 have HZ0:=zh (show (0:Int)≤0∧(0:Int)≤100000 from aa)
 clear hbs hrs
 go_region_held3 (fun w'=>(∀ i,i < 8→w'.cell? ⟨w.heap.size,i,none⟩=some (.int .u8 (nb8 seed i)))) (first | (with_reducible exact HSS.out _ hX) | (with_reducible exact HSS.out _ (hX.alloc' _)) | fail "CELLS") (first | (go_at_call 106;(with_reducible refine (gV seed 2 0 HZ0.out.1 HZ0.out.2 _).mono ?_);rintro e w1 ⟨A1,c1,rfl,hs1,he1⟩;have hX:=hX.trans he1) | fail "LEAVES")
 all_goals (go_wp2_with fail;go_ret;exact ⟨w1.heap.size,A1,c1,rfl,Blk.new _ _ _,hs1.ext ((Ext.refl _).alloc' _),HE0.out.trans ((Ext.refl _).drew'.trans (hX.alloc' _))⟩)
theorem wX (seed m:UInt64) (w:World) :
  Calls prog 111 #[.agg (nmc seed),.agg (nmc m)] w fun e w'=>∃ A c,e=.returned (.slice A 18 c)∧w'.ownsRow w.heap.size 50 8 (.slice A 18 c) 18 (ncs (gQ seed m))∧Ext w w':=by
 go_enter func111,ntmps111
 go_wp2_with (with_reducible refine aM rfl (.tmp 3) rfl (w.heap.size+1) 0 rfl m ?h1 ?_)
 case h1=>exact dL (Blk.newAt _ _ _ _ dr)
 go_wp2_with fail
 refine (mA m _).mono ?_
 rintro e w0 ⟨b,cd,rfl,hra,hbg,he0⟩
 go_wp2_with fail
 have hS0:Blk w0 w.heap.size 50 (nmc seed):=((Blk.new w _ _).alloc _).ext he0
 have hE0:Ext w w0:=(((Ext.refl w).alloc' _).alloc' _).trans he0
 have hbl:=jL hra gu
 go_loopw [6,7] (fun v i wr=>∃ (k:Nat) (A:Option Addr) (c:Nat),k≤18∧i=.int .i64 (k:Int)∧v=.slice A k c∧wr.ownsRow w0.heap.size 50 8 (.slice A k c) k (ncs ((List.range k).map (qG seed m)))∧Ext w0 wr) (fun _ i _=>18 - (intOf i).toNat)
 case atStart=>exact ⟨0,_,_,aa,rfl,rfl,World.ownsRow_nil _ _ _ _,Ext.refl _⟩
 case round =>
  obtain ⟨k,A,c,hk,rfl,rfl,hO,hB⟩:=hrel
  by_cases hlt:k < 18
  ·exact tp
  obtain rfl:k=18:=aa
  go_wp2_with fail
  go_ret
  exact ⟨A,c,rfl,bA hO hE0.size,hE0.trans hB⟩
def aIn (seed:UInt64) (leaf:Nat) (m:UInt64):List UInt8 :=
 [toB ((leaf / 256:Nat):Int),toB (leaf:Int)] ++ (gQ (vJ seed 1 ((leaf / 32:Nat):Int) ((leaf % 32:Nat):Int)) m).flatMap nmb ++ (gP (cJ seed 1 ((leaf / 32:Nat):Int)) (leaf % 32)).flatMap nmb
  ++ (gQ (vJ seed 2 0 ((leaf / 32:Nat):Int)) (dS (cJ seed 1 ((leaf / 32:Nat):Int)))).flatMap nmb ++ (gP (cJ seed 2 0) (leaf / 32)).flatMap nmb
theorem aFS (seed m:UInt64) (leaf t r:Nat) (hr:r < 32) (h:leaf=32 * t+r) :
  [toB ((leaf:Int) / 256),toB (leaf:Int)] ++ (gQ (vJ seed 1 (t:Int) ((leaf:Int).tmod 32)) m).flatMap nmb ++ (gP (cJ seed 1 (t:Int)) r).flatMap nmb ++ (gQ (vJ seed 2 0 (t:Int)) (dS (cJ seed 1 (t:Int)))).flatMap nmb ++ (gP (cJ seed 2 0) t).flatMap nmb=aIn seed leaf m:=by
 have e1:leaf / 32=t:=aa
 have e2:leaf % 32=r:=aa
 have e3:(leaf:Int).tmod 32=(r:Int):=by
  rw [Int.tmod_eq_emod_of_nonneg aa];omega
 unfold aIn
 rw [e1,e2,e3,show (leaf:Int) / 256=((leaf / 256:Nat):Int) from aa]
theorem aJa (seed:UInt64) (A:Option Addr) (c:Nat):aAc seed A c=#[.int .u8 (nb8 seed 0),.int .u8 (nb8 seed 1),.int .u8 (nb8 seed 2),.int .u8 (nb8 seed 3),.int .u8 (nb8 seed 4),.int .u8 (nb8 seed 5),.int .u8 (nb8 seed 6),.int .u8 (nb8 seed 7),.slice A 32 c] ++ Array.replicate 32 (.slice none 0 0):=by
 kernel_rfl
theorem aDx (seed:UInt64) (A:Option Addr) (c:Nat) (t:Nat) (ht:t < 32):(aAc seed A c)[9+t]?=some (.slice none 0 0):=by
 rw [aJa,Array.getElem?_append_right dr]
 simp [ht]
theorem aDw (seed:UInt64) (A:Option Addr) (c:Nat):(aAc seed A c)[8]?=some (.slice A 32 c):=by kernel_rfl
theorem aAI (seed:UInt64) (A:Option Addr) (c:Nat) (i:Nat) (hi:i < 8):(aAc seed A c)[i]?=some (.int .u8 (nb8 seed i)):=by
 have:i=0 ∨ i=1 ∨ i=2 ∨ i=3 ∨ i=4 ∨ i=5 ∨ i=6 ∨ i=7:=aa
 rcases this with rfl | rfl | rfl | rfl | rfl | rfl | rfl | rfl <;> rfl
theorem aMo {w:World} {B:Nat} {t:TypeId} {seed:UInt64} {A:Option Addr} {c:Nat} (h:Blk w B t (aAc seed A c)):∀ i,i < 8→w.cell? ⟨B,i,none⟩=some (.int .u8 (nb8 seed i)):=fun i hi=>by
 rw [h.cell,aAI seed A c i hi]
theorem aCf {w:World} {B k:Nat} {t:TypeId} {seed:UInt64} {A:Option Addr} {c:Nat} {u:Value} (h:Blk w B t ((aAc seed A c).setIfInBounds (9+k) u)):∀ i,i < 8→w.cell? ⟨B,i,none⟩=some (.int .u8 (nb8 seed i)):=fun i hi=>by
 rw [h.cell,Array.getElem?_setIfInBounds_ne (by omega),aAI seed A c i hi]
theorem qR (w:World) (B i:Nat) (u:Value):w.grownBy (w.setCell ⟨B,i,none⟩ u) (some B) :=
 ⟨rfl,rfl,rfl,by simp [World.setCell],fun k hk hne=>Below.heap_setCell w _ u k (fun e=>hne (by rw [e]))⟩
theorem aAd {w w1:World} (B i:Nat) (u:Value) (h:Ext w w1):w.grownBy (w1.setCell ⟨B,i,none⟩ u) (some B):=by
 have g:=qR w1 B i u
 exact ⟨g.os.trans h.os,g.tape.trans h.tape,g.output.trans h.output,Nat.le_trans h.size g.size,fun k hk hne=>(g.block k (Nat.lt_of_lt_of_le hk h.size) hne).trans (h.block k hk)⟩
theorem pG (seed:UInt64) (A:Option Addr) (c:Nat):(aAc seed A c).size=41:=by kernel_rfl
def LitB (w:World) (base g:Nat) (a b:Int):Prop:=OwnB w base 5 (some ⟨g,0,none⟩) 2 2 [toB a,toB b]∧Blk w g 5 #[.int .u8 (IntKind.u8.wrap a),.int .u8 (IntKind.u8.wrap b)]
theorem LitB.ext {w w':World} {base g:Nat} {a b:Int} (h:LitB w base g a b) (he:Ext w w'):LitB w' base g a b:=⟨h.1.ext he,h.2.ext he⟩
theorem aBG (wl w':World) (base:Nat) (a b:Int) (hb:base≤wl.heap.size) (he:Ext (wl.alloc (.cells #[.int .u8 (IntKind.u8.wrap a),.int .u8 (IntKind.u8.wrap b)] 5)) w'):LitB w' base wl.heap.size a b :=
 LitB.ext ⟨aDh wl base _ _ _ (toB a) (toB b) rfl hb (bM a) (bM b),Blk.new _ _ _⟩ he
theorem xN {w:World} {base g:Nat} {a b:Int} {N:Option Addr} {c1:Nat} {ns:List UInt64} (hL:LitB w base g a b) (hN:SlN w N 18 c1 ns) (hb:base≤w.heap.size) :
  Calls prog 110 #[.slice (some ⟨g,0,none⟩) 2 2,.slice N 18 c1] w fun e w'=>∃ A' c',e=.returned (.slice A' 146 c')∧OwnB w' base 5 A' 146 c' ([toB a,toB b] ++ ns.flatMap nmb)∧Below base w w':=by
 exact wh
theorem xM (n k r:Nat) (hr:n+k * 8=r) (hk:k≤1000∧n≤1000000) {w:World} {base:Nat} {A:Option Addr} {c:Nat} {l:List UInt8} {N:Option Addr} {c1:Nat} {ns:List UInt64} (hO:OwnB w base 5 A n c l) (hN:SlN w N k c1 ns) (hb:base≤w.heap.size) (hne:∀ b o,N=some ⟨b,o,none⟩→Value.ownBlock (.slice A n c) ≠ some b) :
  Calls prog 110 #[.slice A n c,.slice N k c1] w fun e w'=>∃ A' c',e=.returned (.slice A' r c')∧OwnB w' base 5 A' r c' (l ++ ns.flatMap nmb)∧Below base w w':=by
 refine (aGc n k r hr base _ _ _ N c1 ns w hO hN hk hb hne).mono ?_
 exact yl
theorem aMg {w9 wS w5:World} {base n c m c5:Nat} {e e':TypeId} {A A5:Option Addr} {l:List UInt8} {xs:List Value} (hO:OwnB w9 base e A n c l) (hx:Ext w9.drew wS) (ho:w5.ownsRow wS.heap.size e' 8 (.slice A5 m c5) m xs) (hm:0 < m):∀ b o,A5=some ⟨b,o,none⟩→Value.ownBlock (.slice A n c) ≠ some b:=by
 intro b o hA hk
 have h1:=(World.ownsRow.lt hO b hk).2
 obtain ⟨g,hg,hge,_⟩:=cM ho hm
 rw [hA] at hg
 injection hg with hg
 injection hg with e1 e2
 have h3:w9.heap.size≤wS.heap.size:=hx.size
 omega
theorem aFj {w w1 w2:World} {row:Option Nat} (g:w.grownBy w1 row) (h:Ext w1 w2):w.grownBy w2 row :=
 ⟨h.os.trans g.os,h.tape.trans g.tape,h.output.trans g.output,Nat.le_trans g.size h.size,fun k hk hne=>(h.block k (Nat.lt_of_lt_of_le hk g.size)).trans (g.block k hk hne)⟩
theorem aEZ {w:World} {base:Nat} {A:Option Addr} {c:Nat} {l:List UInt8} {N:Option Addr} {c1:Nat} {ns:List UInt64} (hO:OwnB w base 5 A 330 c l) (hN:SlN w N 5 c1 ns) (hb:base≤w.heap.size) (hlow:∀ b o,N=some ⟨b,o,none⟩→b < base) :
  Calls prog 110 #[.slice A 330 c,.slice N 5 c1] w fun e w'=>∃ A' c',e=.returned (.slice A' 370 c')∧OwnB w' base 5 A' 370 c' (l ++ ns.flatMap nmb)∧Below base w w' :=
 xM 330 5 370 rfl (by omega) hO hN hb (fun b o hNb hk=>by
  have h1:=(World.ownsRow.lt hO b hk).1
  have h2:=hlow b o hNb
  omega)
theorem aBs (seed m:UInt64) (leaf t r:Nat) (ht:t < 32) (hr:r < 32) (hleaf:leaf=32 * t+r) (B:Nat) (AT:Option Addr) (cT:Nat) (w:World) (hK:Blk w B 187 (aAc seed AT cT)) (hT:SlN w AT 32 cT (cJ seed 2 0)) :
  Calls prog 108 #[.pointer (some ⟨B,0,none⟩),.int .i64 (leaf:Int),.agg (nmc m)] w fun e w'=>∃ A c,e=.returned (.tuple #[.slice A 370 c,.bool true])∧SlB w' A 370 c (aIn seed leaf m)∧w.grownBy w' (some B):=by
 have l0:(0:Int)≤(leaf:Int):=aa
 have l1:(leaf:Int) < 1024:=aa
 have hd:(leaf:Int) / 32=(t:Int):=aa
 have hrm:(leaf:Int) % 32=(r:Int):=aa
 have t0:(0:Int)≤(t:Int):=aa
 have t1:(t:Int) < 32:=aa
 have HK:=zh hK
 have HT:=zh hT
 have hdn:leaf / 32=t:=aa
 have HLF:=zh hleaf
 clear hleaf
 have hK1:=hK.alloc (.cells (nmc m) 50)
 have hcB:(w.alloc (.cells (nmc m) 50)).cell? ⟨B,9+t,none⟩=some (.slice none 0 0):=by
  rw [hK1.cell,aDx seed AT cT _ ht]
 have HK1:=zh hK1
 have HBM:=zh (Blk.new w 50 (nmc m))
 clear hK hT hK1
 go_enter func108,ntmps108
 go_wp2_with fail
 clear hcB
 have HSS:=zh (fun (w':World) (hx:Ext (w.alloc (.cells (nmc m) 50)).drew w')=>aMo (HK1.out.drew.ext hx))
 have HST:=zh (fun (w':World) (hx:Ext (w.alloc (.cells (nmc m) 50)).drew w') (u:Value)=>aCf ((HK1.out.drew.ext hx).set (9+t) u))
 have HCF:=zh (fun (w':World) (hx:Ext (w.alloc (.cells (nmc m) 50)).drew w')=>(⟨by rw [(HK1.out.drew.ext hx).cell,aDx seed AT cT _ aa],(HK1.out.drew.ext hx).frozen _⟩:w'.cell? ⟨B,9+t,none⟩=some (.slice none 0 0)∧w'.frozen? ⟨B,9+t,none⟩=false))
 have hX:=Ext.refl (w.alloc (.cells (nmc m) 50)).drew
 have HZ0:=zh (show (0:Int)≤(t:Int)∧(t:Int)≤100000 from aa)
 go_region_held3 (fun w'=>(∀ i,i < 8→w'.cell? ⟨B,i,none⟩=some (.int .u8 (nb8 seed i)))) (first | (with_reducible exact HSS.out _ hX) | (with_reducible exact HST.out _ hX _) | fail "CELLS") (first | (go_at_call 106;(with_reducible refine (gV seed 1 _ HZ0.out.1 HZ0.out.2 _).mono ?_);rintro e w1 ⟨A1,c1,rfl,hs1,he1⟩;have hX:=hX.trans he1;obtain ⟨hc1,hf1⟩:=HCF.out _ hX) | fail "LEAVES")
 have HEW:=zh (show Ext w w1 from (((Ext.refl w).alloc' (.cells (nmc m) 50)).drew').trans hX)
 have hk1:=HK1.out.drew.ext hX
 have hbm1:=HBM.out.drew.ext hX
 have hneB:w.heap.size ≠ B:=by have:=HK.out.lt;omega
 have HG5:=zh (aAd B (9+t) (.slice A1 32 c1) HEW.out)
 have HS5:=zh (hs1.grown (qR w1 B (9+t) (.slice A1 32 c1)) (SlN.ne_small hs1 hk1 rf))
 have hT1:=HT.out.ext HEW.out
 have HT5:=zh (hT1.grown (qR w1 B (9+t) (.slice A1 32 c1)) (SlN.ne_small hT1 hk1 rf))
 have HBM5:=zh (Blk.far hbm1 (p:=⟨B,9+t,none⟩) hneB (.slice A1 32 c1))
 have HK5:=zh (hk1.set (9+t) (.slice A1 32 c1))
 generalize w1.setCell ⟨B,9+t,none⟩ (.slice A1 32 c1)=w5 at *
 have hcB5:w5.cell? ⟨B,9+t,none⟩=some (.slice A1 32 c1):=by
  rw [HK5.out.cell,Array.getElem?_setIfInBounds_self_of_lt rf]
 have hcT5:w5.cell? ⟨B,8,none⟩=some (.slice AT 32 cT):=by
  rw [HK5.out.cell,Array.getElem?_setIfInBounds_ne aa,aDw]
 clear hc1 hf1 hk1 hbm1 hs1 hT1
 go_wp2_with fail
 refine (oM 32 32 r A1 c1 _ _ aa aa hr HS5.out).mono ?_
 rintro e w6 ⟨A6,c6,rfl,ho6,he6⟩
 rw [sO r hr] at ho6 ⊢
 have HP6:=zh (SlN.of_own ho6)
 have hcT6:w6.cell? ⟨B,8,none⟩=some (.slice AT 32 cT):=by
  rw [(HK5.out.ext he6).cell,Array.getElem?_setIfInBounds_ne aa,aDw]
 have HE6:=zh he6
 clear ho6 he6 hcB5 hcT5
 go_wp2_with fail
 refine (oM 32 32 t AT cT _ _ aa aa ht (HT5.out.ext HE6.out)).mono ?_
 rintro e w7 ⟨A7,c7,rfl,ho7,he7⟩
 rw [sO t ht] at ho7 ⊢
 have HP7:=zh (SlN.of_own ho7)
 have HE7:=zh (HE6.out.trans he7)
 have HP6':=zh (HP6.out.ext he7)
 clear ho7 he7 hcT6
 go_wp2_with fail
 have HB7:=zh (HK5.out.ext HE7.out)
 have HM7:=zh (HBM5.out.ext HE7.out)
 have HS8:=zh (fun (w':World) (hx:Ext w7.drew w')=>(⟨aCf (HB7.out.drew.ext hx),dM (HM7.out.drew.ext hx)⟩:(∀ i,i < 8→w'.cell? ⟨B,i,none⟩=some (.int .u8 (nb8 seed i)))∧(∀ i,i < 8→w'.cell? ⟨w.heap.size,i,none⟩=some (.int .u8 (nb8 m i)))))
 clear hX
 have hX:=Ext.refl w7.drew
 have HAD:=zh (fun (o:Obj)=>(show Ext w7.drew (w7.alloc o).drew from ((Ext.refl w7.drew).alloc' o:Ext w7.drew (w7.drew.alloc o))))
 have HSP2:=zh (fun (w':World) (hx:Ext w7.drew w')=>HP6'.out.ext ((Ext.refl w7).drew'.trans hx))
 have HPL:=zh (show ∀ b o,A6=some ⟨b,o,none⟩→b < w7.heap.size from fun b o e=>by
  obtain ⟨b',o',e',_,hlt⟩:=HP6'.out.at aa
  exact zk)
 go_region_held3 (fun w'=>(∀ i,i < 8→w'.cell? ⟨B,i,none⟩=some (.int .u8 (nb8 seed i)))∧(∀ i,i < 8→w'.cell? ⟨w.heap.size,i,none⟩=some (.int .u8 (nb8 m i)))) (first | (with_reducible exact HS8.out _ hX) | (with_reducible exact HS8.out _ (HAD.out _)) | (with_reducible exact HS8.out _ (hX.alloc' _)) | fail "CELLS") (first | (go_at_call 112;(with_reducible refine zcl (nB seed 1 _ _ HZ0.out.1 HZ0.out.2 _) fun w3 he3=>?_);first | (have hL:=aBG w7 _ w7.heap.size ((leaf:Int) / 256) (leaf:Int) (Nat.le_refl _) ((Ext.refl _).drew'.trans he3);have hX:=(HAD.out _).trans he3) | (have hX:=hX.trans he3) | fail "KEY") | (go_at_call 111;(with_reducible refine (oP _ m _).mono ?_);rintro e w4 ⟨A4,c4,rfl,hs4,he4⟩;have hX4:=zh (fun (o:Obj)=>(Ext.refl w4).alloc' o);first | (have hL:=hL.ext he4;have hX:=hX.trans he4) | (have hL:=aBG w3 _ w7.heap.size ((leaf:Int) / 256) (leaf:Int) hX.size he4;have hX:=(hX.alloc' _).trans he4) | (have hX:=hX.trans he4) | fail "SIGN") | (go_at_call 110;first | (have hb5:w7.heap.size≤w4.heap.size:=hX.size;(with_reducible refine (xN hL hs4 hb5).mono ?_);rintro e w8 ⟨A8,c8,rfl,hO8,hB8⟩;have hX:=Below.trans hX hB8) | (have hL:=aBG w4 _ w7.heap.size ((leaf:Int) / 256) (leaf:Int) hX.size (Ext.refl _);have hb5:=zh (fun (o:Obj)=>(show w7.heap.size≤(w4.alloc o).heap.size from (hX.alloc' o).size));(with_reducible refine (xN hL (hs4.ext (hX4.out _)) (hb5.out _)).mono ?_);rintro e w8 ⟨A8,c8,rfl,hO8,hB8⟩;have hX:=Below.trans (hX.alloc' _) hB8) | (have hb6:w7.heap.size≤w8.heap.size:=hX.size;(with_reducible refine (xO hO8 (HSP2.out _ hX) hb6 HPL.out).mono ?_);rintro e w9 ⟨A9,c9,rfl,hO9,hB9⟩;have hX:=Below.trans hX hB9) | fail "NAMES") | fail "ARM")
 all_goals (
  clear hL
  have HO9:=zh hO9
  have HXY:=zh (fun (w':World) (hy:Ext w9.drew w')=>Ext.trans (Ext.drew' hX) hy)
  have HS9:=zh (fun (w':World) (hx:Ext w7.drew w')=>(⟨aCf (HB7.out.drew.ext hx),by rw [(HB7.out.drew.ext hx).cell,Array.getElem?_setIfInBounds_self_of_lt rf]⟩:(∀ i,i < 8→w'.cell? ⟨B,i,none⟩=some (.int .u8 (nb8 seed i)))∧w'.cell? ⟨B,9+t,none⟩=some (.slice A1 32 c1)))
  have HSR:=zh (fun (w':World) (hx:Ext w7.drew w')=>(HS5.out.ext HE7.out).ext ((Ext.refl w7).drew'.trans hx))
  have HPQ:=zh (fun (w':World) (hx:Ext w7.drew w')=>HP7.out.ext ((Ext.refl w7).drew'.trans hx))
  have HZ2:=zh (show (0:Int)≤(0:Int)∧(0:Int)≤100000 from aa)
  have H32:=zh (show 32≤32∧32≤1000000 from aa)
  have HQL:=zh (show ∀ b o,A7=some ⟨b,o,none⟩→b < w7.heap.size from fun b o e=>by
   obtain ⟨b',o',e',_,hlt⟩:=HP7.out.at aa
   exact zk)
  have hb9:w7.heap.size≤w9.heap.size:=hX.size
  clear hX hO9
  go_wp2_with fail
  have hY:=Ext.refl w9.drew
  have HK18:=zh (show 18≤1000∧186≤1000000 from aa)
  have HK5b:=zh (show 5≤1000∧330≤1000000 from aa)
  have H180:=zh (show 0 < 18 from aa)
  go_region_held3 (fun w'=>(∀ i,i < 8→w'.cell? ⟨B,i,none⟩=some (.int .u8 (nb8 seed i)))∧w'.cell? ⟨B,9+t,none⟩=some (.slice A1 32 c1)) (first | (with_reducible exact HS9.out _ hX) | (with_reducible exact HS9.out _ (HXY.out _ hY)) | fail "CELLS") (first | (go_at_call 112;(with_reducible refine zcl (nB seed 2 0 _ HZ2.out.1 HZ2.out.2 _) fun w3 he3=>?_);have hY:=hY.trans he3) | (go_at_call 105;(with_reducible refine zcl (lQ 32 32 A1 c1 _ _ H32.out.1 H32.out.2 (HSR.out _ (HXY.out _ hY))) fun w4 he4=>?_);have hY:=hY.trans he4) | (go_at_call 111;(with_reducible refine (wX _ _ _).mono ?_);rintro e w5 ⟨A5,c5,rfl,hs5,he5⟩;have HNE:=zh (aMg HO9.out hY hs5 H180.out);have hN5:=SlN.of_own hs5;have hY:=hY.trans he5;have hO5:=HO9.out.ext ((Ext.refl w9).drew'.trans hY);clear hs5) | (go_at_call 110;first | (have hb5:w7.heap.size≤w5.heap.size:=Nat.le_trans hb9 hY.size;(with_reducible refine (xM 186 18 330 rfl HK18.out hO5 hN5 hb5 HNE.out).mono ?_);rintro e w10 ⟨A10,c10,rfl,hO10,hB10⟩;have hX:=Below.trans (HXY.out _ hY) hB10) | (have hb6:w7.heap.size≤w10.heap.size:=hX.size;(with_reducible refine (aEZ hO10 (HPQ.out _ hX) hb6 HQL.out).mono ?_);rintro e w11 ⟨A11,c11,rfl,hO11,hB11⟩;have hX:=Below.trans hX hB11) | fail "NAMES") | fail "ARM")
  all_goals (
   go_wp2_with fail
   go_ret2
   refine ⟨A11,c11,rfl,?_,aFj HG5.out (HE7.out.trans ((Ext.refl w7).drew'.trans hX))⟩
   rw [← aFS seed m leaf t r hr HLF.out]
   exact hO11.sl))
theorem aBN {w w1 w2:World} {B:Nat} (h:Ext w w1) (hB:w.heap.size≤B) (g:w1.grownBy w2 (some B)):Ext w w2 :=
 ⟨g.os.trans h.os,g.tape.trans h.tape,g.output.trans h.output,Nat.le_trans h.size g.size,fun k hk=>(g.block k (Nat.lt_of_lt_of_le hk h.size) (by intro e;injection e;omega)).trans (h.block k hk)⟩
theorem aCZ (p:Value) (leaf:Int) (m:UInt64) (w:World) (h:leaf < 0 ∨ 1024≤leaf) :
  Calls prog 108 #[p,.int .i64 leaf,.agg (nmc m)] w fun e w'=>e=.returned (.tuple #[.slice none 0 0,.bool false])∧Ext w w':=by
 rcases h with h | h
 ·have h1 : decide (leaf < 0) = true := lx
  exact ze
 have h0:decide (leaf < 0)=false:=gj
 have h1:decide (1024≤leaf)=true:=lx
 exact ze
theorem zL (seed:UInt64) (w:World) :
  Calls prog 107 #[.agg (nmc seed)] w fun e w'=>∃ B A c,e=.returned (.pointer (some ⟨B,0,none⟩))∧w.heap.size≤B∧Blk w' B 187 (aAc seed A c)∧SlN w' A 32 c (cJ seed 2 0)∧Ext w w':=by
 have hbs:=Blk.new w 50 (nmc seed)
 have HE0:=zh ((Ext.refl w).alloc' (.cells (nmc seed) 50))
 have HBS:=zh hbs
 have hrs:=dL hbs
 go_enter func107,ntmps107
 go_wp2_with fail
 have HSS:=zh (fun (w':World) (hx:Ext (w.alloc (.cells (nmc seed) 50)).drew w')=>(dM (HBS.out.drew.ext hx):∀ i,i < 8→w'.cell? ⟨w.heap.size,i,none⟩=some (.int .u8 (nb8 seed i))))
 have hX:=Ext.refl (w.alloc (.cells (nmc seed) 50)).drew
 have HZ0:=zh (show (0:Int)≤0∧(0:Int)≤100000 from aa)
 clear hbs hrs
 go_region_held3 (fun w'=>(∀ i,i < 8→w'.cell? ⟨w.heap.size,i,none⟩=some (.int .u8 (nb8 seed i)))) (first | (with_reducible exact HSS.out _ hX) | (with_reducible exact HSS.out _ (hX.alloc' _)) | fail "CELLS") (first | (go_at_call 106;(with_reducible refine (gV seed 2 0 HZ0.out.1 HZ0.out.2 _).mono ?_);rintro e w1 ⟨A1,c1,rfl,hs1,he1⟩;have hX:=hX.trans he1) | fail "LEAVES")
 all_goals (go_wp2_with fail;go_ret;exact ⟨w1.heap.size,A1,c1,rfl,(HE0.out.trans ((Ext.refl _).drew'.trans hX)).size,Blk.new _ _ _,hs1.ext ((Ext.refl _).alloc' _),HE0.out.trans ((Ext.refl _).drew'.trans (hX.alloc' _))⟩)
def oI (seed:UInt64) (lv leaf:Int) (m:UInt64):Option (List UInt8) :=
 if lv=1∧0≤leaf∧leaf < 32 then some (yW seed leaf.toNat m) else if lv=2∧0≤leaf∧leaf < 1024 then some (aIn seed leaf.toNat m) else none
def SigOut (w:World) (o:Option (List UInt8)) (e:Ending) (w':World):Prop:=∃ A n c,e=.returned (.tuple #[.slice A n c,.bool o.isSome])∧SlB w' A n c (o.getD [])∧Ext w w'
theorem SigOut.no (w w':World) (h:Ext w w'):SigOut w none (.returned (.tuple #[.slice none 0 0,.bool false])) w':=⟨none,0,0,rfl,SlB.nil _,h⟩
theorem aBo (seed m:UInt64) (leaf:Int) (w:World) :
  Calls prog 48 #[.agg (nmc seed),.int .i64 2,.int .i64 leaf,.agg (nmc m)] w (SigOut w (oI seed 2 leaf m)):=by
 have hbs:=(Blk.new w 50 (nmc seed)).alloc (.cells (nmc m) 50)
 have hbm:Blk ((w.alloc (.cells (nmc seed) 50)).alloc (.cells (nmc m) 50)) (w.heap.size+1) 50 (nmc m):=Blk.newAt _ _ _ _ dr
 have HE0:=zh (((Ext.refl w).alloc' (.cells (nmc seed) 50)).alloc' (.cells (nmc m) 50))
 have HSS:=zh (fun (w':World) (hx:Ext ((w.alloc (.cells (nmc seed) 50)).alloc (.cells (nmc m) 50)).drew w')=>(⟨dM (hbs.drew.ext hx),dM (hbm.drew.ext hx)⟩:(∀ i,i < 8→w'.cell? ⟨w.heap.size,i,none⟩=some (.int .u8 (nb8 seed i)))∧(∀ i,i < 8→w'.cell? ⟨w.heap.size+1,i,none⟩=some (.int .u8 (nb8 m i)))))
 have hX:=Ext.refl ((w.alloc (.cells (nmc seed) 50)).alloc (.cells (nmc m) 50)).drew
 clear hbs hbm
 by_cases hl:0≤leaf∧leaf < 1024
 ·obtain ⟨n, rfl⟩ := Int.eq_ofNat_of_zero_le hl.1
  have HU:=zh (show oI seed 2 (n:Int) m=some (aIn seed n m) from by unfold oI;rw [if_neg aa,if_pos ⟨rfl,hl.1,hl.2⟩,Int.toNat_natCast])
  have h1:n / 32 < 32:=aa
  have h2:n % 32 < 32:=aa
  have HKS:=zh (fun B AT cT w hK hT=>aBs seed m n (n / 32) (n % 32) h1 h2 aa B AT cT w hK hT)
  clear h1 h2 hl
  go_enter func48,ntmps48
  go_wp2_with fail
  go_region_held3 (fun w'=>(∀ i,i < 8→w'.cell? ⟨w.heap.size,i,none⟩=some (.int .u8 (nb8 seed i)))∧(∀ i,i < 8→w'.cell? ⟨w.heap.size+1,i,none⟩=some (.int .u8 (nb8 m i)))) (first | (with_reducible exact HSS.out _ hX) | fail "CELLS") (first | (go_at_call 107;(with_reducible refine (zL seed _).mono ?_);rintro e w1 ⟨B1,A1,c1,rfl,hB1,hK1,hT1,he1⟩;have hB:=hB1;have hX0:=hX;have hX:=hX.trans he1) | (go_at_call 108;(with_reducible refine (HKS.out B1 A1 c1 _ hK1 hT1).mono ?_);rintro e w2 ⟨A2,c2,rfl,hs2,hg2⟩;have hX:=aBN hX (Nat.le_trans hX0.size hB) hg2) | fail "ARM")
  all_goals (
   go_wp2_with fail
   go_ret2
   rw [HU.out]
   exact ⟨A2,370,c2,rfl,hs2,HE0.out.trans ((Ext.refl _).drew'.trans hX)⟩)
 have HU:=zh (show oI seed 2 leaf m=none from by unfold oI;rw [if_neg aa,if_neg aa])
 have HKS:=zh (fun p w=>aCZ p leaf m w aa)
 clear hl
 go_enter func48,ntmps48
 go_wp2_with fail
 go_region_held3 (fun w'=>(∀ i,i < 8→w'.cell? ⟨w.heap.size,i,none⟩=some (.int .u8 (nb8 seed i)))∧(∀ i,i < 8→w'.cell? ⟨w.heap.size+1,i,none⟩=some (.int .u8 (nb8 m i)))) (first | (with_reducible exact HSS.out _ hX) | fail "CELLS") (first | (go_at_call 107;(with_reducible refine (zM seed _).mono ?_);rintro e w1 ⟨B1,A1,c1,rfl,hK1,hT1,he1⟩;have hX:=hX.trans he1) | (go_at_call 108;(with_reducible refine zcl (HKS.out _ _) fun w2 he2=>?_);have hX:=hX.trans he2) | fail "ARM")
 all_goals (
  go_wp2_with fail
  go_ret2
  rw [HU.out]
  exact SigOut.no _ _ (HE0.out.trans ((Ext.refl _).drew'.trans hX)))
theorem aEN (seed m:UInt64) (lv leaf:Int) (w:World) (h2:lv ≠ 2) (h:lv ≠ 1 ∨ leaf < 0 ∨ 32≤leaf) :
  Calls prog 48 #[.agg (nmc seed),.int .i64 lv,.int .i64 leaf,.agg (nmc m)] w (SigOut w none):=by
 have HE0:=zh (((Ext.refl w).alloc' (.cells (nmc seed) 50)).alloc' (.cells (nmc m) 50))
 have b2:(lv == 2)=false:=beq_eq_false_iff_ne.2 h2
 by_cases h1:lv=1
 ·subst h1
  by_cases h0:leaf < 0
  ·have d0 : decide (leaf < 0) = true := by simpa using h0
   exact y9
  have d0:decide (leaf < 0)=false:=by simpa using h0
  have d1:decide (32≤leaf)=true:=gj
  exact y9
 have b1:(lv != 1)=true:=by simpa using h1
 clear h
 go_enter func48,ntmps48
 go_wp2_with fail
 go_ret2
 exact SigOut.no _ _ HE0.out
theorem aCX (seed m:UInt64) (lv leaf:Int) (w:World) :
  Calls prog 48 #[.agg (nmc seed),.int .i64 lv,.int .i64 leaf,.agg (nmc m)] w (SigOut w (oI seed lv leaf m)):=by
 by_cases h2:lv=2
 ·subst h2;exact aBo seed m leaf w
 by_cases h1:lv=1∧0≤leaf∧leaf < 32
 ·obtain ⟨rfl, h3, h4⟩ := h1
  obtain ⟨n,rfl⟩:=Int.eq_ofNat_of_zero_le h3
  refine (aBp seed m n aa w).mono ?_
  rintro e w' ⟨A,c,rfl,hs,he⟩
  rw [show oI seed 1 (n:Int) m=some (yW seed n m) from by unfold oI;rw [if_pos ⟨rfl,h3,h4⟩,Int.toNat_natCast]]
  exact ⟨A,186,c,rfl,hs,he⟩
 rw [show oI seed lv leaf m=none from by unfold oI;rw [if_neg h1,if_neg (fun h=>h2 h.1)]]
 exact aEN seed m lv leaf w h2 aa
theorem aDm:nmc 0=zcs.toArray:=by kernel_rfl
theorem aBq (seed:UInt64) (lv:Int) (h:lv < 1 ∨ 2 < lv) (w:World) :
  Calls prog 46 #[.agg (nmc seed),.int .i64 lv] w fun e w'=>e=.returned (.agg (nmc 0))∧Ext w w':=by
 rcases h with h | h
 ·have d0 : decide (lv < 1) = true := lx
  exact xt
 have d0:decide (lv < 1)=false:=gj
 have d1:decide (2 < lv)=true:=lx
 exact xt
def mB (seed:UInt64) (lv:Int):UInt64:=if 1≤lv∧lv≤2 then aNd seed lv else 0
theorem pR (seed:UInt64) (lv:Int) (w:World) :
  Calls prog 46 #[.agg (nmc seed),.int .i64 lv] w fun e w'=>e=.returned (.agg (nmc (mB seed lv)))∧Ext w w':=by
 unfold mB
 by_cases h:1≤lv∧lv≤2
 ·rw [if_pos h];exact zK seed lv h.1 h.2 w
 rw [if_neg h];exact aBq seed lv aa w
end
end Go.Proofs.YtgmnmjeccfnmbaaGreat
