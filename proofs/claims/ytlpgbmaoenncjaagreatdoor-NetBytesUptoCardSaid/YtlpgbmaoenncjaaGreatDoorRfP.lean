/-
  Digits as texts: their order is the order of the numbers; what ParseInt and Atoi make of them. Without a condition.
-/
import Derived.Test.YtlpgbmaoenncjaaGreatDoorPvs
import Derived.Lib.AtoiAll
import Derived.Lib.AtoiAllCases
import Derived.Lib.ParseIntBTie
namespace Go.Proofs.YtlpgbmaoenncjaaGreatDoor
open Go.RowKit
set_option linter.unusedVariables false
def dval:List UInt8→Nat
 | []=>0
 | c :: r=>(c.toNat - 48)*10 ^ r.length+dval r
def Digs (l:List UInt8):Prop:=∀ c∈l,48≤c.toNat∧c.toNat≤57
theorem dval_snoc (l:List UInt8) (c:UInt8):dval (l++[c])=10*dval l+(c.toNat - 48):=by
 induction l with
 | nil=>simp [dval]
 | cons x r ih =>
   rw [List.cons_append,dval,ih,dval,List.length_append,List.length_singleton,Nat.pow_succ,Nat.mul_add]
   rw [show (x.toNat - 48)*(10 ^ r.length*10)=10*((x.toNat - 48)*10 ^ r.length) by rw [← Nat.mul_assoc,Nat.mul_comm]]
   omega
theorem dec_digs (N:Nat):Digs (Lib.decDigits N):=by
 induction N using Nat.strongRecOn with
 | _ N ih =>
   intro c hc
   by_cases h1:N<10
   ·rw [Lib.decDigits,dif_pos h1] at hc
    obtain rfl:=List.mem_singleton.1 hc
    rw [ofNat_digit h1]
    omega
   ·rw [Lib.decDigits,dif_neg h1] at hc
    rcases List.mem_append.1 hc with h | h
    ·exact ih (N / 10) (by omega) c h
    ·obtain rfl:=List.mem_singleton.1 h
     rw [ofNat_digit (Nat.mod_lt _ (by decide))]
     omega
theorem dval_dec (N:Nat):dval (Lib.decDigits N)=N:=by
 induction N using Nat.strongRecOn with
 | _ N ih =>
   by_cases h1:N<10
   ·rw [Lib.decDigits,dif_pos h1]
    rw [dval,ofNat_digit h1]
    simp [dval]
   ·rw [Lib.decDigits,dif_neg h1,dval_snoc,ih (N / 10) (by omega),ofNat_digit (Nat.mod_lt _ (by decide))]
    omega
theorem dval_lt:∀ {l:List UInt8},Digs l→dval l<10 ^ l.length
 | [],_=>by simp [dval]
 | c :: r,h=>by
   have h1:=h c (List.mem_cons_self ..)
   have h2:=dval_lt fun x hx=>h x (List.mem_cons_of_mem _ hx)
   rw [dval,List.length_cons,Nat.pow_succ]
   have:(c.toNat - 48)*10 ^ r.length≤9*10 ^ r.length:=Nat.mul_le_mul_right _ (by omega)
   omega
theorem dval_order:∀ (l m:List UInt8),Digs l→Digs m→l.length=m.length→(Op.bytesLess l m||l==m)=decide (dval l≤dval m)
 | [],[],_,_,_=>by simp [Op.bytesLess,dval]
 | c :: r,d :: q,hl,hm,h=>by
   have h1:=hl c (List.mem_cons_self ..)
   have h2:=hm d (List.mem_cons_self ..)
   have hr:Digs r:=fun x hx=>hl x (List.mem_cons_of_mem _ hx)
   have hq:Digs q:=fun x hx=>hm x (List.mem_cons_of_mem _ hx)
   have hlen:r.length=q.length:=by simpa using h
   have b1:=dval_lt hr
   have b2:=dval_lt hq
   have ih:=dval_order r q hr hq hlen
   rw [dval,dval,hlen]
   rw [hlen] at b1
   generalize 10 ^ q.length=P at *
   rcases Nat.lt_trichotomy c.toNat d.toNat with hcd | hcd | hcd
   ·have e1:(c<d)=True:=by simp [UInt8.lt_iff_toNat_lt,hcd]
    have:(c.toNat - 48)*P+P≤(d.toNat - 48)*P:=by rw [← Nat.succ_mul]; exact Nat.mul_le_mul_right _ (by omega)
    simp only [Op.bytesLess,e1,decide_true,Bool.true_or]
    symm
    rw [decide_eq_true_iff]
    omega
   ·obtain rfl:c=d:=UInt8.toNat_inj.1 hcd
    have e1:(c<c)=False:=by simp
    have e2:(c :: r==c :: q)=(r==q):=by simp
    simp only [Op.bytesLess,e1,decide_false,Bool.false_or,beq_self_eq_true,Bool.true_and,e2]
    rw [ih,decide_eq_decide]
    omega
   ·have e1:(c<d)=False:=by simp [UInt8.lt_iff_toNat_lt]; omega
    have hne:c≠d:=fun e=>by subst e; omega
    have e2:(c==d)=false:=by simpa using hne
    have e3:(c :: r==d :: q)=false:=by simp [hne]
    have:(d.toNat - 48)*P+P≤(c.toNat - 48)*P:=by rw [← Nat.succ_mul]; exact Nat.mul_le_mul_right _ (by omega)
    simp only [Op.bytesLess,e1,e2,e3,decide_false,Bool.false_or,Bool.false_and]
    symm
    rw [decide_eq_false_iff_not]
    omega
theorem dec_low (N:Nat) (h:1≤N):10 ^ ((Lib.decDigits N).length - 1)≤N:=by
 obtain⟨d,r,h1,h2,h3,h4⟩:=dec_cons N
 have h5:=dval_dec N
 rw [h1,dval] at h5
 rw [h1,List.length_cons,Nat.add_sub_cancel]
 have hd:d.toNat≠48:=fun e=>h4 h (UInt8.toNat_inj.1 (by rw [e]; rfl))
 have:1*10 ^ r.length≤(d.toNat - 48)*10 ^ r.length:=Nat.mul_le_mul_right _ (by omega)
 omega
theorem dec_pos (N:Nat):1≤(Lib.decDigits N).length:=by
 obtain⟨d,r,h1,-⟩:=dec_cons N
 rw [h1]; simp
theorem dec_le (m M:Nat) (hM:1≤M):(decide ((Lib.decDigits m).length<(Lib.decDigits M).length)||(decide ((Lib.decDigits m).length=(Lib.decDigits M).length)&&(Op.bytesLess (Lib.decDigits m) (Lib.decDigits M)||Lib.decDigits m==Lib.decDigits M)))=decide (m≤M):=by
 have hm:=dval_lt (dec_digs m)
 rw [dval_dec] at hm
 have hM2:=dval_lt (dec_digs M)
 rw [dval_dec] at hM2
 have hlo:=dec_low M hM
 have p1:=dec_pos m
 have p2:=dec_pos M
 rcases Nat.lt_trichotomy (Lib.decDigits m).length (Lib.decDigits M).length with h | h | h
 ·have h1:10 ^ (Lib.decDigits m).length≤10 ^ ((Lib.decDigits M).length - 1):=Nat.pow_le_pow_right (by decide) (by omega)
  have h2:m≤M:=by omega
  simp [h,h2]
 ·have h1:=dval_order _ _ (dec_digs m) (dec_digs M) h
  rw [dval_dec,dval_dec] at h1
  rw [h1]
  simp [h]
 ·have hm1:1≤m:=by
   rcases Nat.eq_zero_or_pos m with rfl | h0
   ·rw [decDigits_zero] at h; have h7:([48]:List UInt8).length=1:=rfl; omega
   ·exact h0
  have hlo2:=dec_low m hm1
  have h1:10 ^ (Lib.decDigits M).length≤10 ^ ((Lib.decDigits m).length - 1):=Nat.pow_le_pow_right (by decide) (by omega)
  have h2:¬ m≤M:=by omega
  have h3:¬ (Lib.decDigits m).length<(Lib.decDigits M).length:=by omega
  have h4:¬ (Lib.decDigits m).length=(Lib.decDigits M).length:=by omega
  simp [h2,h3,h4]
theorem parse_dec (N:Nat):N<18446744073709551616→∀ r,Lib.parseUint10 0 (Lib.decDigits N++r)=Lib.parseUint10 N r:=by
 induction N using Nat.strongRecOn with
 | _ N ih =>
   intro hN r
   by_cases h1:N<10
   ·rw [Lib.decDigits,dif_pos h1]
    have:=ofNat_digit h1
    show Lib.parseUint10 0 (UInt8.ofNat (48+N) :: r)=_
    rw [Lib.parseUint10,if_pos (by omega),if_neg (by omega),if_neg (by omega),this]
    congr 1
    omega
   ·rw [Lib.decDigits,dif_neg h1,List.append_assoc,ih (N / 10) (by omega) (by omega)]
    have:=ofNat_digit (d:=N % 10) (by omega)
    show Lib.parseUint10 (N / 10) (UInt8.ofNat (48+N % 10) :: r)=_
    rw [Lib.parseUint10,if_pos (by omega),if_neg (by omega),if_neg (by omega),this]
    congr 1
    omega
theorem mag_dec (N:Nat) (h:N<18446744073709551616):Lib.parseMag (Lib.decDigits N) = .ok N:=by
 unfold Lib.parseMag
 obtain⟨d,r,h1,-⟩:=dec_cons N
 rw [if_neg (by rw [h1]; simp)]
 have:=parse_dec N h []
 rw [List.append_nil] at this
 rw [this,Lib.parseUint10]
theorem atoi_dec (N:Nat) (h:N≤9223372036854775807):Lib.atoiAll (Lib.decDigits N) = .ok (N:Int):=by
 obtain⟨d,r,h1,h2,h3,-⟩:=dec_cons N
 have hm:=mag_dec N (by omega)
 rw [h1] at hm ⊢
 unfold Lib.atoiAll
 dsimp only
 rw [if_neg (by omega),hm]
 dsimp only
 rw [if_neg (by omega),if_neg (by omega),if_neg (by omega)]
theorem atoi_neg (N:Nat) (h:N≤9223372036854775808):Lib.atoiAll (45 :: Lib.decDigits N) = .ok (-(N:Int)):=by
 have hm:=mag_dec N (by omega)
 unfold Lib.atoiAll
 dsimp only
 have h45:(45:UInt8).toNat=45:=rfl
 rw [if_pos (.inr h45),hm]
 dsimp only
 rw [if_neg (by rw [h45]; simp),if_neg (by omega),if_pos h45]
def fitsB (t most:ByteArray):Bool :=
 if 1<t.size∧t.data.toList[0]? = some 48 then false
 else decide (t.size<most.size)||(decide (t.size=most.size)&&(Op.bytesLess t.toList most.toList||t.toList==most.toList))
theorem toList_data (t:ByteArray):t.toList=t.data.toList:=by rw [ByteArray.toList_eq]
theorem fits_step (n M:Nat) (hM:9≤M) (c:UInt8) (hc:48≤c.toNat∧c.toNat≤57) :
 fitsB ⟨(Lib.decDigits n++[c]).toArray⟩ ⟨(Lib.decDigits M).toArray⟩=!(decide (n=0)||decide ((M - (c.toNat - 48)) / 10<n))∧fitsB ⟨[c].toArray⟩ ⟨(Lib.decDigits M).toArray⟩=true:=by
 have hsz:∀ l:List UInt8,(⟨l.toArray⟩:ByteArray).size=l.length:=fun l=>by simp [ByteArray.size]
 have hdt:∀ l:List UInt8,(⟨l.toArray⟩:ByteArray).data.toList=l:=fun l=>by simp
 constructor
 ·unfold fitsB
  rw [hsz,hsz,hdt,toList_data,toList_data,hdt,hdt]
  obtain⟨d,r,h1,h2,h3,h4⟩:=dec_cons n
  by_cases hn:n=0
  ·subst hn
   rw [decDigits_zero,if_pos ⟨by simp,by simp⟩]
   simp
  ·have hd:d≠48:=h4 (by omega)
   have hdec:Lib.decDigits n++[c]=Lib.decDigits (10*n+(c.toNat - 48)):=by
    rw [Lib.decDigits.eq_1 (10*n+(c.toNat - 48)),dif_neg (by omega),show (10*n+(c.toNat - 48)) / 10=n by omega,show (10*n+(c.toNat - 48)) % 10=c.toNat - 48 by omega,digit_of (by omega)]
   rw [if_neg (by rw [h1]; intro e; exact hd (by simpa using e.2)),hdec,dec_le _ M (by omega)]
   have e0:decide (n=0)=false:=by simpa using hn
   rw [e0,Bool.false_or,← decide_not,decide_eq_decide]
   omega
 ·unfold fitsB
  rw [hsz,hsz,hdt,toList_data,toList_data,hdt,hdt,if_neg (by simp)]
  have hdec:[c]=Lib.decDigits (c.toNat - 48):=by rw [Lib.decDigits,dif_pos (by omega),digit_of (by omega)]
  rw [hdec,dec_le _ M (by omega),decide_eq_true_iff]
  omega
end Go.Proofs.YtlpgbmaoenncjaaGreatDoor
